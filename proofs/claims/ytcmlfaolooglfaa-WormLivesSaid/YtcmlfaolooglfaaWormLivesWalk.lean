/- WormLives: the walk. -/
import Derived.Test.YtcmlfaolooglfaaWormLivesP
import Derived.Test.YtcmlfaolooglfaaWormRules
import Derived.Test.YtcmlfaolooglfaaLits
import Derived.Test.YtcmlfaolooglfaaRegion
import Derived.Test.YtcmlfaolooglfaaLivesArg
import Derived.Deep.CutBlock
import Derived.Outline
import Derived.Deep.RegionHeld3
import Derived.Deep.QuietTactic
import Derived.BigQuiet
import Derived.Deep.DeepCutAuto
namespace Go.Proofs.Ytcmlfaolooglfaa.wormLives
open Go.ChangeShapes Go.WideShapes Go.ChangeAt Go.RowKit
set_option linter.unusedVariables false
set_option linter.unusedSimpArgs false

/-- What the first loop keeps. -/
def LRel (W : World) (p : Nat) (now : Int) (k : Nat) (n : Value) (wr : World) : Prop :=
  ∃ ps : List (Option Int), ps.length = k ∧ TreeIn W (fun x => x < W.heap.size) wr p (stL ps) ∧ (∀ t, some t ∈ ps → t < 25) ∧ n = .int .i64 (liveM (stL ps) now).length
def LDone (W : World) (p : Nat) (now : Int) (n : Value) (wr : World) : Prop := ∃ k, k ≤ 20 ∧ LRel W p now k n wr
theorem below_drewq {B : Nat} {a w : World} (h : Below B a w) (n : Nat) : Below B a (w.drewN n) := h.trans ⟨rfl, rfl, rfl, Nat.le_refl _, fun _ _ => rfl⟩
def fch (i : Nat) : ByteArray := strOf [UInt8.ofNat (97 + i)]
theorem utf8_a (i : Nat) (hi : i < 20) : (⟨#[102]⟩ : ByteArray) ++ fch i = strOf (fname i) := by
  unfold fch fname
  exact strOf_append [102] [UInt8.ofNat (97 + i)]
theorem enc_a (i : Nat) (hi : i < 20) : Utf8.encode (97 + (i : Int)) = fch i := by
  rcases (show i = 0 ∨ i = 1 ∨ i = 2 ∨ i = 3 ∨ i = 4 ∨ i = 5 ∨ i = 6 ∨ i = 7 ∨ i = 8 ∨ i = 9 ∨ i = 10 ∨ i = 11 ∨ i = 12 ∨ i = 13 ∨ i = 14 ∨ i = 15 ∨ i = 16 ∨ i = 17 ∨ i = 18 ∨ i = 19 by omega) with rfl | rfl | rfl | rfl | rfl | rfl | rfl | rfl | rfl | rfl | rfl | rfl | rfl | rfl | rfl | rfl | rfl | rfl | rfl | rfl <;> rfl
theorem cv1 (i : Nat) (hi : i < 20) : ∀ w, (convert 3 21 (.int .i64 (97 + (i : Int)))).run Try.prog w = .ok (.int .i32 (97 + (i : Int))) w := fun w => by
  have hk : Try.prog.intKind 21 = .i32 := by kernel_rfl
  have := run_convert_int (P := Try.prog) w 3 21 .i64 (97 + (i : Int)) (by rw [Try.underlying3]; rfl) (by rw [hk]; exact Try.underlying21)
  rw [this, hk, IntWalk.i32_in _ (by omega)]
theorem cv2 (i : Nat) (hi : i < 20) : ∀ w, (convert 21 9 (.int .i32 (97 + (i : Int)))).run Try.prog w = .ok (.string (fch i)) w := fun w => by
  have := run_convert_int_string (P := Try.prog) w 21 9 .i32 (97 + (i : Int)) (by rw [Try.underlying21]; rfl) Try.underlying9
  rw [this, enc_a i hi]
section
variable {W w : World} {P : Nat → Prop} {p : Nat} {ps : List (Option Int)} {k : Nat}
theorem lv_make (h : TreeIn W P w p (stL ps)) (hk : ps.length = k) (h20 : k < 20) : Calls Try.prog 11 #[ptr p, .slice (some ⟨w.heap.size, 0, none⟩) 1 1, .int .i64 1] (w.alloc (.cells #[.string (strOf (fname k))] 9)) fun e w' => InTurned W P (w.alloc (.cells #[.string (strOf (fname k))] 9)) p (stL (ps ++ [none])) (.tuple #[.int .i64 ((k : Int) + 1), .int .i64 0]) e w' := by
  have := in_make (h.grow (wall w (.cells #[.string (strOf (fname k))] 9))) (some ⟨w.heap.size, 0, none⟩) 1 1 [fname k] 1 (strs_lit (w := w) (vs := [.string (strOf (fname k))]) 9 rfl rfl (by simp) (by simp [fname])) (Nat.le_refl _) (by omega)
  subst hk
  rw [stL_make ps h20] at this
  exact this
theorem lv_seal (h : TreeIn W P w p (stL (ps ++ [none]))) (hk : ps.length = k) (h20 : k < 20) (u : Int) (h0 : 0 ≤ u) (h1 : u ≤ 1099511627776) : Calls Try.prog 12 #[ptr p, .int .i64 ((k : Int) + 1), .int .u64 u] w (InTurned W P w p (stL (ps ++ [some u])) (.int .i64 0)) := by
  have := in_seal h ((k : Int) + 1) u (okInt (by omega) (by omega)) h0 (by omega)
  subst hk
  rw [stL_seal ps u h1] at this
  exact this
theorem lv_next {now : Int} {ps : List (Option Int)} {k : Nat} {w : World} {q : Option Int} {n : Nat} (hk : ps.length = k) (hT : TreeIn W (fun x => x < W.heap.size) w p (stL (ps ++ [q]))) (hP : ∀ t, some t ∈ ps → t < 25) (hq : ∀ t, q = some t → t < 25) (hn : (liveM (stL (ps ++ [q])) now).length = n) : LRel W p now (k + 1) (.int .i64 n) w :=
  ⟨ps ++ [q], by rw [List.length_append, hk]; rfl, hT, fun t ht => by
    rcases List.mem_append.1 ht with h | h
    · exact hP t h
    · simp at h; exact hq t h.symm, by rw [hn]⟩
end
set_option maxRecDepth 100000 in
set_option maxHeartbeats 8000000 in
theorem walk {H : Type} {enc : TypeId × Value → H} (W : World) (base : Nat) (v0 : Value) (d0 : DataW H) (p0 : List MemPlace) (o0 : Value.okWide Try.prog W .any base 23 v0) (h0 : DataW.Trod enc Try.prog W 0 (fun _ => true) true 23 v0 d0 p0) (l0 : ∀ x ∈ p0, x.block < W.heap.size) (v1 : Value) (d1 : DataW H) (p1 : List MemPlace) (o1 : Value.okWide Try.prog W .any base 31 v1) (h1 : DataW.Trod enc Try.prog W 0 (fun _ => true) true 31 v1 d1 p1) (l1 : ∀ x ∈ p1, x.block < W.heap.size) (a2 : Int) (w2 : (Lit.int .u64 a2).wf = true) (a3 : Int) (w3 : (Lit.int .u64 a3).wf = true) (hsz : (DataW.weightsEach Try.prog [23, 31, 22, 22] ([d0, d1, .lit (.int .u64 a2), .lit (.int .u64 a3)] : List (DataW H))).all (· ≤ reachBytes) = true) :
    Calls Try.prog 4 #[v0, v1, .int .u64 a2, .int .u64 a3] W (Fine W) := by
  obtain ⟨a, len, cap, us, rfl, hlc, hr, hus⟩ : ∃ a len cap us, v0 = .slice a len cap ∧ len ≤ cap ∧ RowAt (Old W) W a len ((us : List Int).map (Value.int .u64)) ∧ ∀ u ∈ us, 0 ≤ u := by
    obtain ⟨a0, len, cap, rfl⟩ := okWide_slice Try.underlying23 o0
    obtain ⟨fuel, hf⟩ := h0
    exact open_u64T hf l0
  obtain ⟨b, bn, bc, bs, rfl, hbc, hbr⟩ : ∃ a len cap bs, v1 = .slice a len cap ∧ len ≤ cap ∧ RowAt (Old W) W a len ((bs : List Bool).map Value.bool) := by
    obtain ⟨a0, len, cap, rfl⟩ := okWide_slice Try.underlying31 o1
    obtain ⟨fuel, hf⟩ := h1
    exact open_boolsT hf l1
  have b2 : 0 ≤ a2 := by simp [Lit.wf, IntKind.min, IntKind.max, IntKind.signed, IntKind.bits] at w2; omega
  have b3 : 0 ≤ a3 := by simp [Lit.wf, IntKind.min, IntKind.max, IntKind.signed, IntKind.bits] at w3; omega
  have t2 : 0 ≤ a2 % 30 := by omega
  have t2' : a2 % 30 < 30 := by omega
  have t3 : 0 ≤ a3 % 30 := by omega
  have t3' : a3 % 30 < 30 := by omega
  have hlm := hr.small
  have hbm := hbr.small
  unfold maxLen at hlm hbm
  have HR := Lib.hid hr
  have HBR := Lib.hid hbr
  have HUS := Lib.hid hus
  clear hr hbr hus o0 o1 h0 h1 l0 l1 w2 w3 hsz hlc hbc
  go_enter Try.func4, Try.ntmps4
  go_wp2_with fail
  (with_reducible refine (in_new W _ (Below.refl _ _)).mono ?_)
  rintro e w2 ⟨p, rfl, hT1, hb1⟩
  have HT := Lib.hid hT1
  clear hT1 hb1
  go_upto_block 0 with (fail)
  go_cut [10] from 29 to 85 (fun n wx => LDone W p (a2 % 30) n wx)
  case first =>
    go_wp2_with fail
    go_loopw [10, 11] (fun n i wr => ∃ k : Nat, i = .int .i64 k ∧ k ≤ 20 ∧ LRel W p (a2 % 30) k n wr) (fun _ i _ => 20 - (intOf i).toNat)
    case atStart => exact ⟨0, rfl, by omega, [], rfl, HT.out, by simp, rfl⟩
    case round =>
      obtain ⟨k, rfl, hk20, hR⟩ := hrel
      obtain ⟨ps, hpk, hT, hP, rfl⟩ := hR
      have HPK := Lib.hid hpk
      have HT := Lib.hid hT
      have HP := Lib.hid hP
      have HBW := Lib.hid hT.below
      clear hpk hT hP
      obtain ⟨n, hn⟩ : ∃ n, n = (liveM (stL ps) (a2 % 30)).length := ⟨_, rfl⟩
      rw [← hn]
      have hnk : n ≤ 21 := by
        have h1 : (liveM (stL ps) (a2 % 30)).length ≤ (stL ps).length := by
          unfold liveM
          rw [List.length_map]
          exact List.length_filter_le _ _
        rw [stL_len] at h1
        have := HPK.out
        omega
      have HN := Lib.hid hn
      clear hn
      by_cases hlt : k < len
      · have hd1 : decide (k < len) = true := by simpa using hlt
        by_cases h20 : k < 20
        · obtain ⟨g, off, rfl, hg1, hgw, hcells⟩ := HR.out.at_ (by omega)
          have hul : us.length = len := by have := HR.out.length; simpa using this
          obtain ⟨u, hu⟩ : ∃ u, us[k]? = some u := ⟨_, List.getElem?_eq_getElem (by omega)⟩
          have hu0 : 0 ≤ u := HUS.out u (List.mem_of_getElem? hu)
          have hc0 : W.cell? ⟨g, off + k, none⟩ = some (.int .u64 u) := by rw [hcells k hlt, List.getElem?_map, hu]; rfl
          have HC0 := Lib.hid hc0
          have i0 : (0 : Int) ≤ (k : Int) := by omega
          have i1 : (k : Int) < (len : Int) := by omega
          have i2 : (k : Int) < 20 := by omega
          have hd2 : decide ((k : Int) < 20) = true := by simpa using i2
          have m1 : 0 ≤ u % 25 := by omega
          have m2 : u % 25 < 25 := by omega
          have hname := utf8_a k h20
          have hcv1 := cv1 k h20
          have hcv2 := cv2 k h20
          have HGW := Lib.hid hgw
          have HB20 := Lib.hid h20
          clear hcells hul hu hc0
          go_wp2_with fail
          (with_reducible refine (lv_make HT.out HPK.out HB20.out).mono ?_)
          rintro e w4 ⟨rfl, hT4, hK4⟩
          have HT4 := Lib.hid hT4
          have HL := Lib.hid (fun q => stL_live ps q (a2 % 30))
          clear hT4 hK4 hname hcv1 hcv2
          by_cases hbk : k < bn
          · have hd3 : decide (k < bn) = true := by simpa using hbk
            obtain ⟨gb, ob, rfl, _, hgbw, hbcells⟩ := HBR.out.at_ (by omega)
            have hbl : bs.length = bn := by have := HBR.out.length; simpa using this
            obtain ⟨bb, hbb⟩ : ∃ bb, bs[k]? = some bb := ⟨_, List.getElem?_eq_getElem (by omega)⟩
            have hcb : w4.cell? ⟨gb, ob + k, none⟩ = some (.bool bb) := (HT4.out.below.cell (p := ⟨gb, ob + k, none⟩) hgbw).trans (by rw [hbcells k hbk, List.getElem?_map, hbb]; rfl)
            have i3 : (k : Int) < (bn : Int) := by omega
            clear hbcells hbl hbb
            cases bb with
            | true =>
              go_wp2_with fail
              go_roundw
              case rel => exact ⟨k + 1, by go_num, by omega, lv_next HPK.out HT4.out HP.out (fun t h => by cases h) (by rw [HL.out none, List.append_nil]; exact HN.out.symm)⟩
              case measure => simp [intOf]; omega
            | false =>
              have q4 : w4.cell? ⟨g, off + k, none⟩ = some (.int .u64 u) := (HT4.out.below.cell (p := ⟨g, off + k, none⟩) HGW.out).trans HC0.out
              go_wp2_with fail
              (with_reducible refine (lv_seal HT4.out HPK.out HB20.out (u % 25) (by omega) (by omega)).mono ?_)
              rintro e w5 ⟨rfl, hT5, hK5⟩
              have q5 : w5.cell? ⟨g, off + k, none⟩ = some (.int .u64 u) := (hT5.below.cell (p := ⟨g, off + k, none⟩) HGW.out).trans HC0.out
              have HT5 := Lib.hid hT5
              clear hT5 hK5
              by_cases hlv : a2 % 30 < u % 25
              · have hd4 : decide (a2 % 30 < u % 25) = true := by simpa using hlv
                have HNN : Hid ((liveM (stL (ps ++ [some (u % 25)])) (a2 % 30)).length = n + 1) := by
                  rw [HL.out (some (u % 25)), List.length_append, ← HN.out]
                  simp only [if_pos hlv]
                  exact rfl
                go_wp2_with fail
                go_roundw
                case rel => exact ⟨k + 1, by go_num, by omega, lv_next HPK.out HT5.out HP.out (fun t h => by cases h; omega) HNN.out⟩
                case measure => simp [intOf]; omega
              · have hd4 : decide (a2 % 30 < u % 25) = false := by simpa using hlv
                have HNN : Hid ((liveM (stL (ps ++ [some (u % 25)])) (a2 % 30)).length = n) := by
                  rw [HL.out (some (u % 25)), List.length_append, ← HN.out]
                  simp only [if_neg hlv]
                  exact rfl
                go_wp2_with fail
                go_roundw
                case rel => exact ⟨k + 1, by go_num, by omega, lv_next HPK.out HT5.out HP.out (fun t h => by cases h; omega) HNN.out⟩
                case measure => simp [intOf]; omega
          · have hd3 : decide (k < bn) = false := by simpa using hbk
            have q4 : w4.cell? ⟨g, off + k, none⟩ = some (.int .u64 u) := (HT4.out.below.cell (p := ⟨g, off + k, none⟩) HGW.out).trans HC0.out
            go_wp2_with fail
            (with_reducible refine (lv_seal HT4.out HPK.out HB20.out (u % 25) (by omega) (by omega)).mono ?_)
            rintro e w5 ⟨rfl, hT5, hK5⟩
            have q5 : w5.cell? ⟨g, off + k, none⟩ = some (.int .u64 u) := (hT5.below.cell (p := ⟨g, off + k, none⟩) HGW.out).trans HC0.out
            have HT5 := Lib.hid hT5
            clear hT5 hK5
            by_cases hlv : a2 % 30 < u % 25
            · have hd4 : decide (a2 % 30 < u % 25) = true := by simpa using hlv
              have HNN : Hid ((liveM (stL (ps ++ [some (u % 25)])) (a2 % 30)).length = n + 1) := by
                rw [HL.out (some (u % 25)), List.length_append, ← HN.out]
                simp only [if_pos hlv]
                exact rfl
              go_wp2_with fail
              go_roundw
              case rel => exact ⟨k + 1, by go_num, by omega, lv_next HPK.out HT5.out HP.out (fun t h => by cases h; omega) HNN.out⟩
              case measure => simp [intOf]; omega
            · have hd4 : decide (a2 % 30 < u % 25) = false := by simpa using hlv
              have HNN : Hid ((liveM (stL (ps ++ [some (u % 25)])) (a2 % 30)).length = n) := by
                rw [HL.out (some (u % 25)), List.length_append, ← HN.out]
                simp only [if_neg hlv]
                exact rfl
              go_wp2_with fail
              go_roundw
              case rel => exact ⟨k + 1, by go_num, by omega, lv_next HPK.out HT5.out HP.out (fun t h => by cases h; omega) HNN.out⟩
              case measure => simp [intOf]; omega
        · have hd2 : decide ((k : Int) < 20) = false := by simp; omega
          go_wp2_with fail
          go_meet
          exact ⟨k, hk20, ps, HPK.out, HT.out, HP.out, by rw [HN.out]⟩
      · have hd1 : decide (k < len) = false := by simpa using hlt
        go_wp2_with fail
        go_meet
        exact ⟨k, hk20, ps, HPK.out, HT.out, HP.out, by rw [HN.out]⟩
  case rest =>
    obtain ⟨k, hk, ps, hpk, hT, hP, rfl⟩ := hcut
    obtain ⟨w3, rfl⟩ : ∃ w3 : World, w3 = wc := ⟨_, rfl⟩
    obtain ⟨T, hTe⟩ : ∃ T, T = stL ps := ⟨_, rfl⟩
    have hlink : ∀ z x, aget z T = some x → x.links = 1 := by rw [hTe]; exact fun z x h => stL_item h
    have h25 : liveM T 25 = [] := by rw [hTe]; exact live_none fun z x h => stL_til (by omega) hP h
    have hTs : ASorted ilt T := by rw [hTe]; exact stL_sorted ps
    have hTl : T.length ≤ 21 := by rw [hTe, stL_len]; omega
    rw [← hTe] at hT ⊢
    clear hTe hP hpk
    have hlat := live_later hTs (now := a2 % 30) (later := a2 % 30 + a3 % 30) (by omega)
    have hris := live_rises hTs (a2 % 30)
    have hmem := fun z => live_mem hTs (now := a2 % 30) (z := z)
    have hla := in_live hT (a2 % 30)
    have hlb := fun w' (hb : Below w3.heap.size w3 w') => in_live (hT.grow hb) (a2 % 30 + a3 % 30)
    have hbo := fun w' (hb : Below w3.heap.size w3 w') => in_bound (hT.grow hb) (a2 % 30)
    have hl25 := fun w' (hb : Below w3.heap.size w3 w') => in_live (hT.grow hb) 25
    rw [h25] at hl25
    have hnl : (liveM T (a2 % 30)).length ≤ 21 := by
      have : (liveM T (a2 % 30)).length ≤ T.length := by
        unfold liveM
        rw [List.length_map]
        exact List.length_filter_le _ _
      omega
    rw [hlat] at hlb
    obtain ⟨A, hAe⟩ : ∃ A, A = liveM T (a2 % 30) := ⟨_, rfl⟩
    obtain ⟨q, hqe⟩ : ∃ q, q = atLives T (a2 % 30 + a3 % 30) := ⟨_, rfl⟩
    rw [← hAe] at hla hlb hbo hris hmem hnl ⊢
    rw [← hqe] at hlb
    have hBl : (A.filter q).length ≤ A.length := List.length_filter_le _ _
    obtain ⟨B, hBe⟩ : ∃ B, B = A.filter q := ⟨_, rfl⟩
    rw [← hBe] at hlb hBl
    obtain ⟨na, hna⟩ : ∃ na, na = A.length := ⟨_, rfl⟩
    obtain ⟨nb, hnb⟩ : ∃ nb, nb = B.length := ⟨_, rfl⟩
    rw [← hna] at hnl hBl hbo ⊢
    rw [← hnb] at hBl
    have HNA := Lib.hid hna
    have HNB := Lib.hid hnb
    have HBE := Lib.hid hBe
    have HRIS := Lib.hid hris
    have HMEM := Lib.hid hmem
    have HLA := Lib.hid hla
    have HLB := Lib.hid hlb
    have HBO := Lib.hid hbo
    have HL25 := Lib.hid hl25
    have HT := Lib.hid hT
    have HLINK := Lib.hid hlink
    clear hlat hris hmem hla hlb hbo hl25 hT hlink h25 hAe hqe hBe hna hnb hTs hTl
    go_wp2_with fail
    (with_reducible refine HLA.out.mono ?_)
    rintro e w4 ⟨aA, cA, rfl, hcA, hrA, hB4⟩
    rw [← HNA.out] at hcA hrA ⊢
    have HB4 := Lib.hid hB4
    have HRA := Lib.hid hrA
    have hs4 := hB4.size
    clear hB4 hrA
    go_wp2_with fail
    (with_reducible refine (HLB.out _ HB4.out).mono ?_)
    rintro e w5 ⟨aB, cB, rfl, hcB, hrB, hB5⟩
    rw [← HNB.out] at hcB hrB ⊢
    have HB5 := Lib.hid (HB4.out.trans (hB5.mono hs4))
    have HB45 := Lib.hid hB5
    have HRB := Lib.hid hrB
    have hs5 := hB5.size
    clear hB5 hrB
    go_wp2_with fail
    (with_reducible refine (HBO.out _ HB5.out).mono ?_)
    rintro e w6 ⟨rfl, hB6⟩
    have HB6 := Lib.hid (HB5.out.trans (hB6.mono (by omega)))
    have HRA6 := Lib.hid ((HRA.out.below HB45.out (Nat.le_refl _)).below hB6 (Nat.le_refl _))
    have HRB6 := Lib.hid (HRB.out.below hB6 (Nat.le_refl _))
    have hs6 := hB6.size
    have hdd : decide ((na : Int) < (nb : Int)) = false := by simp; omega
    have hdd2 : decide (na < nb) = false := by simp; omega
    clear hB6
    have hdc : decide (0 < na) = decide ((0 : Int) < (na : Int)) := by simp
    go_wp2_with fail
    go_loopw [16, 17] (fun s i wr => ∃ j : Nat, j ≤ na ∧ i = .int .i64 j ∧ s = .int .i64 ((A.take j).filter q).length ∧ Below w6.heap.size w6 wr) (fun _ i _ => na - (intOf i).toNat)
    case atStart => exact ⟨0, by omega, rfl, rfl, Below.refl _ _⟩
    case round =>
      obtain ⟨j, hj, rfl, rfl, hb⟩ := hrel
      have HBR2 := Lib.hid hb
      have hbs := hb.size
      clear hb
      by_cases hjn : j < na
      · obtain ⟨z, hz⟩ : ∃ z, A[j]? = some z := ⟨_, List.getElem?_eq_getElem (by rw [← HNA.out]; omega)⟩
        obtain ⟨x, hx, hlv⟩ := HMEM.out z (List.mem_of_getElem? hz)
        have hl1 := HLINK.out z x hx
        have hids := HT.out.ok.ids z x hx
        simp only [livesB, Bool.and_eq_true, decide_eq_true_eq] at hlv
        obtain ⟨⟨hk1, hcl⟩, htl⟩ := hlv
        obtain ⟨ga, oa, rfl, _, hgaw, hac⟩ := HRA6.out.at_ (by omega)
        have hca : ∀ w', Below w6.heap.size w6 w' → w'.cell? ⟨ga, oa + j, none⟩ = some (.int .i64 z) := fun w' hb => (hb.cell (p := ⟨ga, oa + j, none⟩) hgaw).trans (by rw [hac j hjn, List.getElem?_map, hz]; rfl)
        have HCA := Lib.hid hca
        have c0 := hca wr HBR2.out
        have HNODE : Hid (Calls Try.prog 13 #[ptr p, .int .i64 z] wr fun e w' => e = .returned (.tuple #[.agg #[.int .i64 z, .int .i64 1, .int .i64 1, .int .i64 x.b.length, .int .u64 x.til, .bool true], .bool true]) ∧ Below wr.heap.size wr w') := by
          have := in_node (HT.out.grow (HB6.out.trans (HBR2.out.mono (by omega)))) z (okInt hids.1 (by omega))
          have hnm : nodeM T z = .agg #[.int .i64 z, .int .i64 1, .int .i64 1, .int .i64 x.b.length, .int .u64 x.til, .bool true] := by unfold nodeM; rw [hx]; simp only [nodeV, hk1, hl1, hcl]
          rw [hnm, hx] at this
          exact this
        have hrem : removeOf 1 1 x.til true (a2 % 30) = 28 := by unfold removeOf; rw [if_pos ⟨rfl, rfl, by omega, htl⟩]
        have HREM := Lib.hid hrem
        have i0 : (0 : Int) ≤ (j : Int) := by omega
        have i1 : (j : Int) < (na : Int) := by omega
        have hd1 : decide (j < na) = true := by simpa using hjn
        have HZ := Lib.hid hz
        have HSTEP := Lib.hid (filter_step q hz)
        have hkle : ((A.take j).filter q).length ≤ j := Nat.le_trans (List.length_filter_le _ _) (List.length_take_le _ _)
        obtain ⟨kk, hkk⟩ : ∃ kk, kk = ((A.take j).filter q).length := ⟨_, rfl⟩
        rw [← hkk] at hkle HSTEP ⊢
        have HKK := Lib.hid hkk
        have HAC := Lib.hid hac
        have HGA := Lib.hid hgaw
        clear hx hl1 hids hk1 hcl htl hac hca hrem hz hkk hgaw
        go_wp2_with fail
        (with_reducible refine HNODE.out.mono ?_)
        rintro e w7 ⟨rfl, hB7⟩
        have hs7 := hB7.size
        have hB78 : Below wr.heap.size wr (w7.alloc (.cells #[.int .i64 z, .int .i64 1, .int .i64 1, .int .i64 x.b.length, .int .u64 x.til, .bool true] 26)) := hB7.trans ((wall _ _).mono hs7)
        have HB8 := Lib.hid (HBR2.out.trans (hB78.mono hbs))
        have hnd := item_block (MapKept.heap_alloc w7 (.cells #[.int .i64 z, .int .i64 1, .int .i64 1, .int .i64 x.b.length, .int .u64 x.til, .bool true] 26)).1
        have n0 := hnd 0
        have n1 := hnd 1
        have n2 := hnd 2
        have n3 := hnd 3
        have n4 := hnd 4
        have n5 := hnd 5
        have hc8 := HCA.out _ HB8.out
        clear hnd hB7 hB78
        by_cases hj0 : 0 < j
        · obtain ⟨y, hy⟩ : ∃ y, A[j - 1]? = some y := ⟨_, List.getElem?_eq_getElem (by rw [← HNA.out]; omega)⟩
          have hyz : y < z := by
            have h1 := List.pairwise_iff_getElem.1 HRIS.out (j - 1) j (by rw [← HNA.out]; omega) (by rw [← HNA.out]; omega) (by omega)
            have h2 := (List.getElem?_eq_some_iff.1 hy).2
            have h3 := (List.getElem?_eq_some_iff.1 HZ.out).2
            omega
          have HCY : Hid (∀ w', Below w6.heap.size w6 w' → w'.cell? ⟨ga, oa + (j - 1), none⟩ = some (.int .i64 y)) := fun w' hb => (hb.cell (p := ⟨ga, oa + (j - 1), none⟩) HGA.out).trans (by rw [HAC.out (j - 1) (by omega), List.getElem?_map, hy]; rfl)
          have hc9 := HCY.out _ HB8.out
          have hd3 : decide ((0 : Int) < (j : Int)) = true := by simp; omega
          have k01 : 0 ≤ (j : Int) - 1 := by omega
          have k03 : 1 ≤ (j : Int) := by omega
          have k02 : (j : Int) - 1 < (na : Int) := by omega
          have hd4 : decide (z ≤ y) = false := by simp; omega
          clear hy
          go_wp2_with fail
          obtain ⟨w8, hw8⟩ : ∃ w8, w8 = w7.alloc (.cells #[.int .i64 z, .int .i64 1, .int .i64 1, .int .i64 x.b.length, .int .u64 x.til, .bool true] 26) := ⟨_, rfl⟩
          have hw7 : w7.heap.size < w8.heap.size := by rw [hw8]; simp
          rw [← hw8] at n0 n1 n2 n3 n4 n5 hc8 hc9 HB8 ⊢
          clear hw8
          have HKP : Hid (∀ w9, Below w8.heap.size w8 w9 → Below w8.heap.size w8 w9 ∧ w9.cell? ⟨w7.heap.size, 0, none⟩ = some (.int .i64 z) ∧ w9.cell? ⟨w7.heap.size, 1, none⟩ = some (.int .i64 1) ∧ w9.cell? ⟨w7.heap.size, 2, none⟩ = some (.int .i64 1) ∧ w9.cell? ⟨w7.heap.size, 3, none⟩ = some (.int .i64 x.b.length) ∧ w9.cell? ⟨w7.heap.size, 4, none⟩ = some (.int .u64 x.til) ∧ w9.cell? ⟨w7.heap.size, 5, none⟩ = some (.bool true) ∧ w9.cell? ⟨ga, oa + (j - 1), none⟩ = some (.int .i64 y) ∧ w9.cell? ⟨ga, oa + j, none⟩ = some (.int .i64 z)) := fun w9 hb9 => by
            have h6 := HB8.out.trans (hb9.mono HB8.out.size)
            exact ⟨hb9, (hb9.cell (p := ⟨w7.heap.size, 0, none⟩) hw7).trans n0, (hb9.cell (p := ⟨w7.heap.size, 1, none⟩) hw7).trans n1, (hb9.cell (p := ⟨w7.heap.size, 2, none⟩) hw7).trans n2, (hb9.cell (p := ⟨w7.heap.size, 3, none⟩) hw7).trans n3, (hb9.cell (p := ⟨w7.heap.size, 4, none⟩) hw7).trans n4, (hb9.cell (p := ⟨w7.heap.size, 5, none⟩) hw7).trans n5, HCY.out _ h6, HCA.out _ h6⟩
          have hj1 : ((j : Int) - 1).toNat = j - 1 := by omega
          have hw1 : IntKind.i64.wrap ((j : Int) - 1) = (j : Int) - 1 := IntWalk.i64_in _ (by omega)
          refine wp_region_noPanic ?_
          refine wp_region_held_drew (S := (fun w9 => Below w8.heap.size w8 w9 ∧ w9.cell? ⟨w7.heap.size, 0, none⟩ = some (.int .i64 z) ∧ w9.cell? ⟨w7.heap.size, 1, none⟩ = some (.int .i64 1) ∧ w9.cell? ⟨w7.heap.size, 2, none⟩ = some (.int .i64 1) ∧ w9.cell? ⟨w7.heap.size, 3, none⟩ = some (.int .i64 x.b.length) ∧ w9.cell? ⟨w7.heap.size, 4, none⟩ = some (.int .u64 x.til) ∧ w9.cell? ⟨w7.heap.size, 5, none⟩ = some (.bool true) ∧ w9.cell? ⟨ga, oa + (j - 1), none⟩ = some (.int .i64 y) ∧ w9.cell? ⟨ga, oa + j, none⟩ = some (.int .i64 z))) (by kernel_rfl) ?_ (fun hS => ?_)
          · exact HKP.out _ (Below.refl _ _).drew
          refine wpAnyH_take (i := 0) (oi := ?oi1) (v := ?v1) ?hi1 (by kernel_rfl) (by kernel_rfl) (by kernel_rfl) ?hq1 (Or.inl ⟨?hw1, ?hy1⟩) hS ?rest1
          case hi1 => simp only [List.getElem?_toArray, List.getElem?_cons_succ, List.getElem?_cons_zero]; rfl
          case hq1 => exact fun _ _ _ h => h
          case hw1 => rfl
          case hy1 => intro w hSw; (try dsimp only at hSw); go_simp; (try with_reducible rfl)
          try simp only [Act.put, List.setIfInBounds_toArray, List.set_cons_zero, List.set_cons_succ]
          refine wpAnyH_take (i := 1) (oi := ?oi2) (v := ?v2) ?hi2 (by kernel_rfl) (by kernel_rfl) (by kernel_rfl) ?hq2 (Or.inl ⟨?hw2, ?hy2⟩) hS ?rest2
          case hi2 => simp only [List.getElem?_toArray, List.getElem?_cons_succ, List.getElem?_cons_zero]; rfl
          case hq2 => exact fun _ _ _ h => h
          case hw2 => rfl
          case hy2 => intro w hSw; (try dsimp only at hSw); go_simp; (try with_reducible rfl)
          try simp only [Act.put, List.setIfInBounds_toArray, List.set_cons_zero, List.set_cons_succ]
          refine wpAnyH_take (i := 2) (oi := ?oi3) (v := ?v3) ?hi3 (by kernel_rfl) (by kernel_rfl) (by kernel_rfl) ?hq3 (Or.inl ⟨?hw3, ?hy3⟩) hS ?rest3
          case hi3 => simp only [List.getElem?_toArray, List.getElem?_cons_succ, List.getElem?_cons_zero]; rfl
          case hq3 => exact fun _ _ _ h => h
          case hw3 => rfl
          case hy3 => intro w hSw; (try dsimp only at hSw); go_simp; (try with_reducible rfl)
          try simp only [Act.put, List.setIfInBounds_toArray, List.set_cons_zero, List.set_cons_succ]
          refine wpAnyH_take (i := 3) (oi := ?oi4) (v := ?v4) ?hi4 (by kernel_rfl) (by kernel_rfl) (by kernel_rfl) ?hq4 (Or.inl ⟨?hw4, ?hy4⟩) hS ?rest4
          case hi4 => simp only [List.getElem?_toArray, List.getElem?_cons_succ, List.getElem?_cons_zero]; rfl
          case hq4 => exact fun _ _ _ h => h
          case hw4 => rfl
          case hy4 => intro w hSw; (try dsimp only at hSw); go_simp; (try with_reducible rfl)
          try simp only [Act.put, List.setIfInBounds_toArray, List.set_cons_zero, List.set_cons_succ]
          refine wpAnyH_take (i := 4) (oi := ?oi5) (v := ?v5) ?hi5 (by kernel_rfl) (by kernel_rfl) (by kernel_rfl) ?hq5 (Or.inl ⟨?hw5, ?hy5⟩) hS ?rest5
          case hi5 => simp only [List.getElem?_toArray, List.getElem?_cons_succ, List.getElem?_cons_zero]; rfl
          case hq5 => exact fun _ _ _ h => h
          case hw5 => rfl
          case hy5 => intro w hSw; (try dsimp only at hSw); go_simp; (try with_reducible rfl)
          try simp only [Act.put, List.setIfInBounds_toArray, List.set_cons_zero, List.set_cons_succ]
          refine wpAnyH_ready (rs := [5]) (by kernel_rfl) (by simp) ?_
          refine AllReadyH.cons (o := ?o6) ?ho6 (fun K hK => ?_) AllReadyH.nil
          case ho6 => simp only [List.getElem?_toArray, List.getElem?_cons_succ, List.getElem?_cons_zero]; rfl
          go_simp
          (with_reducible refine (wremove_any _ _ _ _ _ _ _ _).mono ?_)
          rintro e w9 ⟨rfl, hb9⟩
          rw [HREM.out]
          go_wp2_with fail
          have hb89 := hS.1.trans (hb9.mono hS.1.size)
          refine hK.out _ _ (HKP.out _ hb89) (fun hS => ?_)
          clear hK K
          try simp only [Act.put, List.setIfInBounds_toArray, List.set_cons_zero, List.set_cons_succ]
          refine wpAnyH_take (i := 6) (oi := ?oi7) (v := ?v7) ?hi7 (by kernel_rfl) (by kernel_rfl) (by kernel_rfl) ?hq7 (Or.inl ⟨?hw7, ?hy7⟩) hS ?rest7
          case hi7 => simp only [List.getElem?_toArray, List.getElem?_cons_succ, List.getElem?_cons_zero]; rfl
          case hq7 => exact fun _ _ _ h => h
          case hw7 => rfl
          case hy7 => intro w hSw; (try dsimp only at hSw); go_simp; (try with_reducible rfl)
          try simp only [Act.put, List.setIfInBounds_toArray, List.set_cons_zero, List.set_cons_succ]
          refine wpAnyH_take (i := 7) (oi := ?oi8) (v := ?v8) ?hi8 (by kernel_rfl) (by kernel_rfl) (by kernel_rfl) ?hq8 (Or.inl ⟨?hw8, ?hy8⟩) hS ?rest8
          case hi8 => simp only [List.getElem?_toArray, List.getElem?_cons_succ, List.getElem?_cons_zero]; rfl
          case hq8 => exact fun _ _ _ h => h
          case hw8 => rfl
          case hy8 => intro w hSw; (try dsimp only at hSw); go_simp; (try with_reducible rfl)
          try simp only [Act.put, List.setIfInBounds_toArray, List.set_cons_zero, List.set_cons_succ]
          refine wpAnyH_take (i := 8) (oi := ?oi9) (v := ?v9) ?hi9 (by kernel_rfl) (by kernel_rfl) (by kernel_rfl) ?hq9 (Or.inl ⟨?hw9, ?hy9⟩) hS ?rest9
          case hi9 => simp only [List.getElem?_toArray, List.getElem?_cons_succ, List.getElem?_cons_zero]; rfl
          case hq9 => exact fun _ _ _ h => h
          case hw9 => rfl
          case hy9 => intro w hSw; (try dsimp only at hSw); go_simp; (try with_reducible rfl)
          try simp only [Act.put, List.setIfInBounds_toArray, List.set_cons_zero, List.set_cons_succ]
          refine wpAnyH_take (i := 9) (oi := ?oi10) (v := ?v10) ?hi10 (by kernel_rfl) (by kernel_rfl) (by kernel_rfl) ?hq10 (Or.inl ⟨?hw10, ?hy10⟩) hS ?rest10
          case hi10 => simp only [List.getElem?_toArray, List.getElem?_cons_succ, List.getElem?_cons_zero]; rfl
          case hq10 => exact fun _ _ _ h => h
          case hw10 => rfl
          case hy10 => intro w hSw; (try dsimp only at hSw); go_simp; (try with_reducible rfl)
          try simp only [Act.put, List.setIfInBounds_toArray, List.set_cons_zero, List.set_cons_succ]
          refine wpAnyH_take (i := 10) (oi := ?oi11) (v := ?v11) ?hi11 (by kernel_rfl) (by kernel_rfl) (by kernel_rfl) ?hq11 (Or.inl ⟨?hw11, ?hy11⟩) hS ?rest11
          case hi11 => simp only [List.getElem?_toArray, List.getElem?_cons_succ, List.getElem?_cons_zero]; rfl
          case hq11 => exact fun _ _ _ h => h
          case hw11 => rfl
          case hy11 => intro w hSw; (try dsimp only at hSw); go_simp; (try with_reducible rfl)
          try simp only [Act.put, List.setIfInBounds_toArray, List.set_cons_zero, List.set_cons_succ]
          refine wpAnyH_take (i := 11) (oi := ?oi12) (v := ?v12) ?hi12 (by kernel_rfl) (by kernel_rfl) (by kernel_rfl) ?hq12 (Or.inl ⟨?hw12, ?hy12⟩) hS ?rest12
          case hi12 => simp only [List.getElem?_toArray, List.getElem?_cons_succ, List.getElem?_cons_zero]; rfl
          case hq12 => exact fun _ _ _ h => h
          case hw12 => rfl
          case hy12 => intro w hSw; (try dsimp only at hSw); go_simp; (try with_reducible rfl)
          try simp only [Act.put, List.setIfInBounds_toArray, List.set_cons_zero, List.set_cons_succ]
          refine wpAnyH_take (i := 12) (oi := ?oi13) (v := ?v13) ?hi13 (by kernel_rfl) (by kernel_rfl) (by kernel_rfl) ?hq13 (Or.inl ⟨?hw13, ?hy13⟩) hS ?rest13
          case hi13 => simp only [List.getElem?_toArray, List.getElem?_cons_succ, List.getElem?_cons_zero]; rfl
          case hq13 => exact fun _ _ _ h => h
          case hw13 => rfl
          case hy13 => intro w hSw; (try dsimp only at hSw); go_simp; (try with_reducible rfl)
          try simp only [Act.put, List.setIfInBounds_toArray, List.set_cons_zero, List.set_cons_succ]
          refine wpAnyH_take (i := 13) (oi := ?oi14) (v := ?v14) ?hi14 (by kernel_rfl) (by kernel_rfl) (by kernel_rfl) ?hq14 (Or.inl ⟨?hw14, ?hy14⟩) hS ?rest14
          case hi14 => simp only [List.getElem?_toArray, List.getElem?_cons_succ, List.getElem?_cons_zero]; rfl
          case hq14 => exact fun _ _ _ h => h
          case hw14 => rfl
          case hy14 => intro w hSw; (try dsimp only at hSw); go_simp; (try with_reducible rfl)
          try simp only [Act.put, List.setIfInBounds_toArray, List.set_cons_zero, List.set_cons_succ]
          refine wpAnyH_take (i := 14) (oi := ?oi15) (v := ?v15) ?hi15 (by kernel_rfl) (by kernel_rfl) (by kernel_rfl) ?hq15 (Or.inl ⟨?hw15, ?hy15⟩) hS ?rest15
          case hi15 => simp only [List.getElem?_toArray, List.getElem?_cons_succ, List.getElem?_cons_zero]; rfl
          case hq15 => exact fun _ _ _ h => h
          case hw15 => rfl
          case hy15 => intro w hSw; (try dsimp only at hSw); go_simp; (try with_reducible rfl)
          try simp only [Act.put, List.setIfInBounds_toArray, List.set_cons_zero, List.set_cons_succ]
          refine wpAnyH_take (i := 15) (oi := ?oi16) (v := ?v16) ?hi16 (by kernel_rfl) (by kernel_rfl) (by kernel_rfl) ?hq16 (Or.inl ⟨?hw16, ?hy16⟩) hS ?rest16
          case hi16 => simp only [List.getElem?_toArray, List.getElem?_cons_succ, List.getElem?_cons_zero]; rfl
          case hq16 => exact fun _ _ _ h => h
          case hw16 => rfl
          case hy16 => intro w hSw; (try dsimp only at hSw); go_simp; (try with_reducible rfl)
          try simp only [Act.put, List.setIfInBounds_toArray, List.set_cons_zero, List.set_cons_succ]
          refine wpAnyH_take (i := 16) (oi := ?oi17) (v := ?v17) ?hi17 (by kernel_rfl) (by kernel_rfl) (by kernel_rfl) ?hq17 (Or.inl ⟨?hw17, ?hy17⟩) hS ?rest17
          case hi17 => simp only [List.getElem?_toArray, List.getElem?_cons_succ, List.getElem?_cons_zero]; rfl
          case hq17 => exact fun _ _ _ h => h
          case hw17 => rfl
          case hy17 => intro w hSw; (try dsimp only at hSw); go_simp; (try with_reducible rfl)
          try simp only [Act.put, List.setIfInBounds_toArray, List.set_cons_zero, List.set_cons_succ]
          refine wpAnyH_take (i := 17) (oi := ?oi18) (v := ?v18) ?hi18 (by kernel_rfl) (by kernel_rfl) (by kernel_rfl) ?hq18 (Or.inl ⟨?hw18, ?hy18⟩) hS ?rest18
          case hi18 => simp only [List.getElem?_toArray, List.getElem?_cons_succ, List.getElem?_cons_zero]; rfl
          case hq18 => exact fun _ _ _ h => h
          case hw18 => rfl
          case hy18 => intro w hSw; (try dsimp only at hSw); go_simp; (try with_reducible rfl)
          try simp only [Act.put, List.setIfInBounds_toArray, List.set_cons_zero, List.set_cons_succ]
          refine wpAnyH_take (i := 18) (oi := ?oi19) (v := ?v19) ?hi19 (by kernel_rfl) (by kernel_rfl) (by kernel_rfl) ?hq19 (Or.inl ⟨?hw19, ?hy19⟩) hS ?rest19
          case hi19 => simp only [List.getElem?_toArray, List.getElem?_cons_succ, List.getElem?_cons_zero]; rfl
          case hq19 => exact fun _ _ _ h => h
          case hw19 => rfl
          case hy19 => intro w hSw; (try dsimp only at hSw); go_simp; (try with_reducible rfl)
          try simp only [Act.put, List.setIfInBounds_toArray, List.set_cons_zero, List.set_cons_succ]
          refine wpAnyH_take (i := 19) (oi := ?oi20) (v := ?v20) ?hi20 (by kernel_rfl) (by kernel_rfl) (by kernel_rfl) ?hq20 (Or.inl ⟨?hw20, ?hy20⟩) hS ?rest20
          case hi20 => simp only [List.getElem?_toArray, List.getElem?_cons_succ, List.getElem?_cons_zero]; rfl
          case hq20 => exact fun _ _ _ h => h
          case hw20 => rfl
          case hy20 => intro w hSw; (try dsimp only at hSw); go_simp; (try with_reducible rfl)
          try simp only [Act.put, List.setIfInBounds_toArray, List.set_cons_zero, List.set_cons_succ]
          refine wpAnyH_take (i := 20) (oi := ?oi21) (v := ?v21) ?hi21 (by kernel_rfl) (by kernel_rfl) (by kernel_rfl) ?hq21 (Or.inl ⟨?hw21, ?hy21⟩) hS ?rest21
          case hi21 => simp only [List.getElem?_toArray, List.getElem?_cons_succ, List.getElem?_cons_zero]; rfl
          case hq21 => exact fun _ _ _ h => h
          case hw21 => rfl
          case hy21 => intro w hSw; (try dsimp only at hSw); go_simp; (try with_reducible rfl)
          try simp only [Act.put, List.setIfInBounds_toArray, List.set_cons_zero, List.set_cons_succ]
          refine wpAnyH_take (i := 21) (oi := ?oi22) (v := ?v22) ?hi22 (by kernel_rfl) (by kernel_rfl) (by kernel_rfl) ?hq22 (Or.inl ⟨?hw22, ?hy22⟩) hS ?rest22
          case hi22 => simp only [List.getElem?_toArray, List.getElem?_cons_succ, List.getElem?_cons_zero]; rfl
          case hq22 => exact fun _ _ _ h => h
          case hw22 => rfl
          case hy22 => intro w hSw; (try dsimp only at hSw); go_simp; (try with_reducible rfl)
          try simp only [Act.put, List.setIfInBounds_toArray, List.set_cons_zero, List.set_cons_succ]
          refine wpAnyH_take (i := 22) (oi := ?oi23) (v := ?v23) ?hi23 (by kernel_rfl) (by kernel_rfl) (by kernel_rfl) ?hq23 (Or.inl ⟨?hw23, ?hy23⟩) hS ?rest23
          case hi23 => simp only [List.getElem?_toArray, List.getElem?_cons_succ, List.getElem?_cons_zero]; rfl
          case hq23 => exact fun _ _ _ h => h
          case hw23 => rfl
          case hy23 => intro w hSw; (try dsimp only at hSw); go_simp; (try with_reducible rfl)
          try simp only [Act.put, List.setIfInBounds_toArray, List.set_cons_zero, List.set_cons_succ]
          refine wpAnyH_take (i := 23) (oi := ?oi24) (v := ?v24) ?hi24 (by kernel_rfl) (by kernel_rfl) (by kernel_rfl) ?hq24 (Or.inl ⟨?hw24, ?hy24⟩) hS ?rest24
          case hi24 => simp only [List.getElem?_toArray, List.getElem?_cons_succ, List.getElem?_cons_zero]; rfl
          case hq24 => exact fun _ _ _ h => h
          case hw24 => rfl
          case hy24 => intro w hSw; (try dsimp only at hSw); go_simp; (try with_reducible rfl)
          try simp only [Act.put, List.setIfInBounds_toArray, List.set_cons_zero, List.set_cons_succ]
          refine wpAnyH_done (by kernel_rfl) ?_ _
          refine NoPanic.normal ?_
          clear hS
          have HB9 := Lib.hid (HB8.out.trans (hb89.mono HB8.out.size))
          clear hb9 hb89
          have hz9 := HCA.out _ HB9.out
          go_wp2_with fail
          by_cases hkn : kk < nb
          · obtain ⟨y2, hy2⟩ : ∃ y2, B[kk]? = some y2 := ⟨_, List.getElem?_eq_getElem (by rw [← HNB.out]; omega)⟩
            obtain ⟨gb, ob, rfl, _, hgb, hbc2⟩ := HRB6.out.at_ (by omega)
            have hcb : w9.cell? ⟨gb, ob + kk, none⟩ = some (.int .i64 y2) := (HB9.out.cell (p := ⟨gb, ob + kk, none⟩) hgb).trans (by rw [hbc2 kk hkn, List.getElem?_map, hy2]; rfl)
            have u0 : (0 : Int) ≤ (kk : Int) := by omega
            have u1 : (kk : Int) < (nb : Int) := by omega
            have hd5 : decide (kk < nb) = true := by simpa using hkn
            have HY2 := Lib.hid hy2
            clear hbc2 hy2
            by_cases hyz2 : y2 = z
            · have hd6 : (y2 == z) = true := by simpa using hyz2
              have hqz : q z = true := by
                have h1 := List.mem_of_getElem? HY2.out
                rw [HBE.out, hyz2] at h1
                exact (List.mem_filter.1 h1).2
              have HE : Hid (((A.take (j + 1)).filter q).length = kk + 1) := by rw [HSTEP.out, hqz, if_pos rfl]; exact rfl
              clear hqz hyz2
              go_quiet (fail)
              go_wp2
              go_roundw
              case rel => exact ⟨j + 1, by omega, by go_num, by rw [HE.out]; go_num, (by first | exact HB9.out | exact HB9.out.drew | exact below_drewq HB9.out _)⟩
              case measure => simp [intOf]; omega
            · have hd6 : (y2 == z) = false := by simpa using hyz2
              have hqz : ¬ q z = true := fun h => by
                have h1 := filter_at q A j z HZ.out h
                rw [← HKK.out, ← HBE.out, HY2.out] at h1
                exact hyz2 (by simpa using h1)
              have HE : Hid (((A.take (j + 1)).filter q).length = kk) := by rw [HSTEP.out, if_neg hqz]; exact rfl
              clear hqz hyz2
              go_quiet (fail)
              go_wp2
              go_roundw
              case rel => exact ⟨j + 1, by omega, by go_num, by rw [HE.out], (by first | exact HB9.out | exact HB9.out.drew | exact below_drewq HB9.out _)⟩
              case measure => simp [intOf]; omega
          · have hd5 : decide (kk < nb) = false := by simpa using hkn
            have hqz : ¬ q z = true := fun h => by
              have h1 := filter_at q A j z HZ.out h
              rw [← HKK.out, ← HBE.out] at h1
              have := (List.getElem?_eq_some_iff.1 h1).1
              rw [← HNB.out] at this
              omega
            have HE : Hid (((A.take (j + 1)).filter q).length = kk) := by rw [HSTEP.out, if_neg hqz]; exact rfl
            clear hqz
            go_quiet (fail)
            go_wp2
            go_roundw
            case rel => exact ⟨j + 1, by omega, by go_num, by rw [HE.out], (by first | exact HB9.out | exact HB9.out.drew | exact below_drewq HB9.out _)⟩
            case measure => simp [intOf]; omega
        · have hd3 : decide ((0 : Int) < (j : Int)) = false := by simp; omega
          go_wp2_with fail
          obtain ⟨w8, hw8⟩ : ∃ w8, w8 = w7.alloc (.cells #[.int .i64 z, .int .i64 1, .int .i64 1, .int .i64 x.b.length, .int .u64 x.til, .bool true] 26) := ⟨_, rfl⟩
          have hw7 : w7.heap.size < w8.heap.size := by rw [hw8]; simp
          rw [← hw8] at n0 n1 n2 n3 n4 n5 hc8 HB8 ⊢
          clear hw8
          have HKP : Hid (∀ w9, Below w8.heap.size w8 w9 → Below w8.heap.size w8 w9 ∧ w9.cell? ⟨w7.heap.size, 0, none⟩ = some (.int .i64 z) ∧ w9.cell? ⟨w7.heap.size, 1, none⟩ = some (.int .i64 1) ∧ w9.cell? ⟨w7.heap.size, 2, none⟩ = some (.int .i64 1) ∧ w9.cell? ⟨w7.heap.size, 3, none⟩ = some (.int .i64 x.b.length) ∧ w9.cell? ⟨w7.heap.size, 4, none⟩ = some (.int .u64 x.til) ∧ w9.cell? ⟨w7.heap.size, 5, none⟩ = some (.bool true)) := fun w9 hb9 => by
            have h6 := HB8.out.trans (hb9.mono HB8.out.size)
            exact ⟨hb9, (hb9.cell (p := ⟨w7.heap.size, 0, none⟩) hw7).trans n0, (hb9.cell (p := ⟨w7.heap.size, 1, none⟩) hw7).trans n1, (hb9.cell (p := ⟨w7.heap.size, 2, none⟩) hw7).trans n2, (hb9.cell (p := ⟨w7.heap.size, 3, none⟩) hw7).trans n3, (hb9.cell (p := ⟨w7.heap.size, 4, none⟩) hw7).trans n4, (hb9.cell (p := ⟨w7.heap.size, 5, none⟩) hw7).trans n5⟩
          refine wp_region_noPanic ?_
          refine wp_region_held_drew (S := (fun w9 => Below w8.heap.size w8 w9 ∧ w9.cell? ⟨w7.heap.size, 0, none⟩ = some (.int .i64 z) ∧ w9.cell? ⟨w7.heap.size, 1, none⟩ = some (.int .i64 1) ∧ w9.cell? ⟨w7.heap.size, 2, none⟩ = some (.int .i64 1) ∧ w9.cell? ⟨w7.heap.size, 3, none⟩ = some (.int .i64 x.b.length) ∧ w9.cell? ⟨w7.heap.size, 4, none⟩ = some (.int .u64 x.til) ∧ w9.cell? ⟨w7.heap.size, 5, none⟩ = some (.bool true))) (by kernel_rfl) ?_ (fun hS => ?_)
          · exact HKP.out _ (Below.refl _ _).drew
          refine wpAnyH_take (i := 0) (oi := ?oi25) (v := ?v25) ?hi25 (by kernel_rfl) (by kernel_rfl) (by kernel_rfl) ?hq25 (Or.inl ⟨?hw25, ?hy25⟩) hS ?rest25
          case hi25 => simp only [List.getElem?_toArray, List.getElem?_cons_succ, List.getElem?_cons_zero]; rfl
          case hq25 => exact fun _ _ _ h => h
          case hw25 => rfl
          case hy25 => intro w hSw; (try dsimp only at hSw); go_simp; (try with_reducible rfl)
          try simp only [Act.put, List.setIfInBounds_toArray, List.set_cons_zero, List.set_cons_succ]
          refine wpAnyH_take (i := 1) (oi := ?oi26) (v := ?v26) ?hi26 (by kernel_rfl) (by kernel_rfl) (by kernel_rfl) ?hq26 (Or.inl ⟨?hw26, ?hy26⟩) hS ?rest26
          case hi26 => simp only [List.getElem?_toArray, List.getElem?_cons_succ, List.getElem?_cons_zero]; rfl
          case hq26 => exact fun _ _ _ h => h
          case hw26 => rfl
          case hy26 => intro w hSw; (try dsimp only at hSw); go_simp; (try with_reducible rfl)
          try simp only [Act.put, List.setIfInBounds_toArray, List.set_cons_zero, List.set_cons_succ]
          refine wpAnyH_take (i := 2) (oi := ?oi27) (v := ?v27) ?hi27 (by kernel_rfl) (by kernel_rfl) (by kernel_rfl) ?hq27 (Or.inl ⟨?hw27, ?hy27⟩) hS ?rest27
          case hi27 => simp only [List.getElem?_toArray, List.getElem?_cons_succ, List.getElem?_cons_zero]; rfl
          case hq27 => exact fun _ _ _ h => h
          case hw27 => rfl
          case hy27 => intro w hSw; (try dsimp only at hSw); go_simp; (try with_reducible rfl)
          try simp only [Act.put, List.setIfInBounds_toArray, List.set_cons_zero, List.set_cons_succ]
          refine wpAnyH_take (i := 3) (oi := ?oi28) (v := ?v28) ?hi28 (by kernel_rfl) (by kernel_rfl) (by kernel_rfl) ?hq28 (Or.inl ⟨?hw28, ?hy28⟩) hS ?rest28
          case hi28 => simp only [List.getElem?_toArray, List.getElem?_cons_succ, List.getElem?_cons_zero]; rfl
          case hq28 => exact fun _ _ _ h => h
          case hw28 => rfl
          case hy28 => intro w hSw; (try dsimp only at hSw); go_simp; (try with_reducible rfl)
          try simp only [Act.put, List.setIfInBounds_toArray, List.set_cons_zero, List.set_cons_succ]
          refine wpAnyH_take (i := 4) (oi := ?oi29) (v := ?v29) ?hi29 (by kernel_rfl) (by kernel_rfl) (by kernel_rfl) ?hq29 (Or.inl ⟨?hw29, ?hy29⟩) hS ?rest29
          case hi29 => simp only [List.getElem?_toArray, List.getElem?_cons_succ, List.getElem?_cons_zero]; rfl
          case hq29 => exact fun _ _ _ h => h
          case hw29 => rfl
          case hy29 => intro w hSw; (try dsimp only at hSw); go_simp; (try with_reducible rfl)
          try simp only [Act.put, List.setIfInBounds_toArray, List.set_cons_zero, List.set_cons_succ]
          refine wpAnyH_ready (rs := [5]) (by kernel_rfl) (by simp) ?_
          refine AllReadyH.cons (o := ?o30) ?ho30 (fun K hK => ?_) AllReadyH.nil
          case ho30 => simp only [List.getElem?_toArray, List.getElem?_cons_succ, List.getElem?_cons_zero]; rfl
          go_simp
          (with_reducible refine (wremove_any _ _ _ _ _ _ _ _).mono ?_)
          rintro e w9 ⟨rfl, hb9⟩
          rw [HREM.out]
          go_wp2_with fail
          have hb89 := hS.1.trans (hb9.mono hS.1.size)
          refine hK.out _ _ (HKP.out _ hb89) (fun hS => ?_)
          clear hK K
          try simp only [Act.put, List.setIfInBounds_toArray, List.set_cons_zero, List.set_cons_succ]
          refine wpAnyH_take (i := 6) (oi := ?oi31) (v := ?v31) ?hi31 (by kernel_rfl) (by kernel_rfl) (by kernel_rfl) ?hq31 (Or.inl ⟨?hw31, ?hy31⟩) hS ?rest31
          case hi31 => simp only [List.getElem?_toArray, List.getElem?_cons_succ, List.getElem?_cons_zero]; rfl
          case hq31 => exact fun _ _ _ h => h
          case hw31 => rfl
          case hy31 => intro w hSw; (try dsimp only at hSw); go_simp; (try with_reducible rfl)
          try simp only [Act.put, List.setIfInBounds_toArray, List.set_cons_zero, List.set_cons_succ]
          refine wpAnyH_take (i := 7) (oi := ?oi32) (v := ?v32) ?hi32 (by kernel_rfl) (by kernel_rfl) (by kernel_rfl) ?hq32 (Or.inl ⟨?hw32, ?hy32⟩) hS ?rest32
          case hi32 => simp only [List.getElem?_toArray, List.getElem?_cons_succ, List.getElem?_cons_zero]; rfl
          case hq32 => exact fun _ _ _ h => h
          case hw32 => rfl
          case hy32 => intro w hSw; (try dsimp only at hSw); go_simp; (try with_reducible rfl)
          try simp only [Act.put, List.setIfInBounds_toArray, List.set_cons_zero, List.set_cons_succ]
          refine wpAnyH_take (i := 8) (oi := ?oi33) (v := ?v33) ?hi33 (by kernel_rfl) (by kernel_rfl) (by kernel_rfl) ?hq33 (Or.inl ⟨?hw33, ?hy33⟩) hS ?rest33
          case hi33 => simp only [List.getElem?_toArray, List.getElem?_cons_succ, List.getElem?_cons_zero]; rfl
          case hq33 => exact fun _ _ _ h => h
          case hw33 => rfl
          case hy33 => intro w hSw; (try dsimp only at hSw); go_simp; (try with_reducible rfl)
          try simp only [Act.put, List.setIfInBounds_toArray, List.set_cons_zero, List.set_cons_succ]
          refine wpAnyH_take (i := 9) (oi := ?oi34) (v := ?v34) ?hi34 (by kernel_rfl) (by kernel_rfl) (by kernel_rfl) ?hq34 (Or.inl ⟨?hw34, ?hy34⟩) hS ?rest34
          case hi34 => simp only [List.getElem?_toArray, List.getElem?_cons_succ, List.getElem?_cons_zero]; rfl
          case hq34 => exact fun _ _ _ h => h
          case hw34 => rfl
          case hy34 => intro w hSw; (try dsimp only at hSw); go_simp; (try with_reducible rfl)
          try simp only [Act.put, List.setIfInBounds_toArray, List.set_cons_zero, List.set_cons_succ]
          refine wpAnyH_take (i := 10) (oi := ?oi35) (v := ?v35) ?hi35 (by kernel_rfl) (by kernel_rfl) (by kernel_rfl) ?hq35 (Or.inl ⟨?hw35, ?hy35⟩) hS ?rest35
          case hi35 => simp only [List.getElem?_toArray, List.getElem?_cons_succ, List.getElem?_cons_zero]; rfl
          case hq35 => exact fun _ _ _ h => h
          case hw35 => rfl
          case hy35 => intro w hSw; (try dsimp only at hSw); go_simp; (try with_reducible rfl)
          try simp only [Act.put, List.setIfInBounds_toArray, List.set_cons_zero, List.set_cons_succ]
          refine wpAnyH_take (i := 11) (oi := ?oi36) (v := ?v36) ?hi36 (by kernel_rfl) (by kernel_rfl) (by kernel_rfl) ?hq36 (Or.inl ⟨?hw36, ?hy36⟩) hS ?rest36
          case hi36 => simp only [List.getElem?_toArray, List.getElem?_cons_succ, List.getElem?_cons_zero]; rfl
          case hq36 => exact fun _ _ _ h => h
          case hw36 => rfl
          case hy36 => intro w hSw; (try dsimp only at hSw); go_simp; (try with_reducible rfl)
          try simp only [Act.put, List.setIfInBounds_toArray, List.set_cons_zero, List.set_cons_succ]
          refine wpAnyH_take (i := 12) (oi := ?oi37) (v := undef) ?hi37 (by kernel_rfl) (by kernel_rfl) (by kernel_rfl) ?hq37 (Or.inr ⟨?hw37, rfl⟩) hS ?rest37
          case hi37 => simp only [List.getElem?_toArray, List.getElem?_cons_succ, List.getElem?_cons_zero]; rfl
          case hq37 => exact fun _ _ _ h => h
          case hw37 => rfl
          try simp only [Act.put, List.setIfInBounds_toArray, List.set_cons_zero, List.set_cons_succ]
          refine wpAnyH_take (i := 13) (oi := ?oi38) (v := undef) ?hi38 (by kernel_rfl) (by kernel_rfl) (by kernel_rfl) ?hq38 (Or.inr ⟨?hw38, rfl⟩) hS ?rest38
          case hi38 => simp only [List.getElem?_toArray, List.getElem?_cons_succ, List.getElem?_cons_zero]; rfl
          case hq38 => exact fun _ _ _ h => h
          case hw38 => rfl
          try simp only [Act.put, List.setIfInBounds_toArray, List.set_cons_zero, List.set_cons_succ]
          refine wpAnyH_take (i := 14) (oi := ?oi39) (v := undef) ?hi39 (by kernel_rfl) (by kernel_rfl) (by kernel_rfl) ?hq39 (Or.inr ⟨?hw39, rfl⟩) hS ?rest39
          case hi39 => simp only [List.getElem?_toArray, List.getElem?_cons_succ, List.getElem?_cons_zero]; rfl
          case hq39 => exact fun _ _ _ h => h
          case hw39 => rfl
          try simp only [Act.put, List.setIfInBounds_toArray, List.set_cons_zero, List.set_cons_succ]
          refine wpAnyH_take (i := 15) (oi := ?oi40) (v := undef) ?hi40 (by kernel_rfl) (by kernel_rfl) (by kernel_rfl) ?hq40 (Or.inr ⟨?hw40, rfl⟩) hS ?rest40
          case hi40 => simp only [List.getElem?_toArray, List.getElem?_cons_succ, List.getElem?_cons_zero]; rfl
          case hq40 => exact fun _ _ _ h => h
          case hw40 => rfl
          try simp only [Act.put, List.setIfInBounds_toArray, List.set_cons_zero, List.set_cons_succ]
          refine wpAnyH_take (i := 16) (oi := ?oi41) (v := undef) ?hi41 (by kernel_rfl) (by kernel_rfl) (by kernel_rfl) ?hq41 (Or.inr ⟨?hw41, rfl⟩) hS ?rest41
          case hi41 => simp only [List.getElem?_toArray, List.getElem?_cons_succ, List.getElem?_cons_zero]; rfl
          case hq41 => exact fun _ _ _ h => h
          case hw41 => rfl
          try simp only [Act.put, List.setIfInBounds_toArray, List.set_cons_zero, List.set_cons_succ]
          refine wpAnyH_take (i := 17) (oi := ?oi42) (v := undef) ?hi42 (by kernel_rfl) (by kernel_rfl) (by kernel_rfl) ?hq42 (Or.inr ⟨?hw42, rfl⟩) hS ?rest42
          case hi42 => simp only [List.getElem?_toArray, List.getElem?_cons_succ, List.getElem?_cons_zero]; rfl
          case hq42 => exact fun _ _ _ h => h
          case hw42 => rfl
          try simp only [Act.put, List.setIfInBounds_toArray, List.set_cons_zero, List.set_cons_succ]
          refine wpAnyH_take (i := 18) (oi := ?oi43) (v := undef) ?hi43 (by kernel_rfl) (by kernel_rfl) (by kernel_rfl) ?hq43 (Or.inr ⟨?hw43, rfl⟩) hS ?rest43
          case hi43 => simp only [List.getElem?_toArray, List.getElem?_cons_succ, List.getElem?_cons_zero]; rfl
          case hq43 => exact fun _ _ _ h => h
          case hw43 => rfl
          try simp only [Act.put, List.setIfInBounds_toArray, List.set_cons_zero, List.set_cons_succ]
          refine wpAnyH_take (i := 19) (oi := ?oi44) (v := undef) ?hi44 (by kernel_rfl) (by kernel_rfl) (by kernel_rfl) ?hq44 (Or.inr ⟨?hw44, rfl⟩) hS ?rest44
          case hi44 => simp only [List.getElem?_toArray, List.getElem?_cons_succ, List.getElem?_cons_zero]; rfl
          case hq44 => exact fun _ _ _ h => h
          case hw44 => rfl
          try simp only [Act.put, List.setIfInBounds_toArray, List.set_cons_zero, List.set_cons_succ]
          refine wpAnyH_take (i := 20) (oi := ?oi45) (v := undef) ?hi45 (by kernel_rfl) (by kernel_rfl) (by kernel_rfl) ?hq45 (Or.inr ⟨?hw45, rfl⟩) hS ?rest45
          case hi45 => simp only [List.getElem?_toArray, List.getElem?_cons_succ, List.getElem?_cons_zero]; rfl
          case hq45 => exact fun _ _ _ h => h
          case hw45 => rfl
          try simp only [Act.put, List.setIfInBounds_toArray, List.set_cons_zero, List.set_cons_succ]
          refine wpAnyH_take (i := 21) (oi := ?oi46) (v := undef) ?hi46 (by kernel_rfl) (by kernel_rfl) (by kernel_rfl) ?hq46 (Or.inr ⟨?hw46, rfl⟩) hS ?rest46
          case hi46 => simp only [List.getElem?_toArray, List.getElem?_cons_succ, List.getElem?_cons_zero]; rfl
          case hq46 => exact fun _ _ _ h => h
          case hw46 => rfl
          try simp only [Act.put, List.setIfInBounds_toArray, List.set_cons_zero, List.set_cons_succ]
          refine wpAnyH_take (i := 22) (oi := ?oi47) (v := ?v47) ?hi47 (by kernel_rfl) (by kernel_rfl) (by kernel_rfl) ?hq47 (Or.inl ⟨?hw47, ?hy47⟩) hS ?rest47
          case hi47 => simp only [List.getElem?_toArray, List.getElem?_cons_succ, List.getElem?_cons_zero]; rfl
          case hq47 => exact fun _ _ _ h => h
          case hw47 => rfl
          case hy47 => intro w hSw; (try dsimp only at hSw); go_simp; (try with_reducible rfl)
          try simp only [Act.put, List.setIfInBounds_toArray, List.set_cons_zero, List.set_cons_succ]
          refine wpAnyH_take (i := 23) (oi := ?oi48) (v := ?v48) ?hi48 (by kernel_rfl) (by kernel_rfl) (by kernel_rfl) ?hq48 (Or.inl ⟨?hw48, ?hy48⟩) hS ?rest48
          case hi48 => simp only [List.getElem?_toArray, List.getElem?_cons_succ, List.getElem?_cons_zero]; rfl
          case hq48 => exact fun _ _ _ h => h
          case hw48 => rfl
          case hy48 => intro w hSw; (try dsimp only at hSw); go_simp; (try with_reducible rfl)
          try simp only [Act.put, List.setIfInBounds_toArray, List.set_cons_zero, List.set_cons_succ]
          refine wpAnyH_done (by kernel_rfl) ?_ _
          refine NoPanic.normal ?_
          clear hS
          have HB9 := Lib.hid (HB8.out.trans (hb89.mono HB8.out.size))
          clear hb9 hb89
          have hz9 := HCA.out _ HB9.out
          go_wp2_with fail
          by_cases hkn : kk < nb
          · obtain ⟨y2, hy2⟩ : ∃ y2, B[kk]? = some y2 := ⟨_, List.getElem?_eq_getElem (by rw [← HNB.out]; omega)⟩
            obtain ⟨gb, ob, rfl, _, hgb, hbc2⟩ := HRB6.out.at_ (by omega)
            have hcb : w9.cell? ⟨gb, ob + kk, none⟩ = some (.int .i64 y2) := (HB9.out.cell (p := ⟨gb, ob + kk, none⟩) hgb).trans (by rw [hbc2 kk hkn, List.getElem?_map, hy2]; rfl)
            have u0 : (0 : Int) ≤ (kk : Int) := by omega
            have u1 : (kk : Int) < (nb : Int) := by omega
            have hd5 : decide (kk < nb) = true := by simpa using hkn
            have HY2 := Lib.hid hy2
            clear hbc2 hy2
            by_cases hyz2 : y2 = z
            · have hd6 : (y2 == z) = true := by simpa using hyz2
              have hqz : q z = true := by
                have h1 := List.mem_of_getElem? HY2.out
                rw [HBE.out, hyz2] at h1
                exact (List.mem_filter.1 h1).2
              have HE : Hid (((A.take (j + 1)).filter q).length = kk + 1) := by rw [HSTEP.out, hqz, if_pos rfl]; exact rfl
              clear hqz hyz2
              go_quiet (fail)
              go_wp2
              go_roundw
              case rel => exact ⟨j + 1, by omega, by go_num, by rw [HE.out]; go_num, (by first | exact HB9.out | exact HB9.out.drew | exact below_drewq HB9.out _)⟩
              case measure => simp [intOf]; omega
            · have hd6 : (y2 == z) = false := by simpa using hyz2
              have hqz : ¬ q z = true := fun h => by
                have h1 := filter_at q A j z HZ.out h
                rw [← HKK.out, ← HBE.out, HY2.out] at h1
                exact hyz2 (by simpa using h1)
              have HE : Hid (((A.take (j + 1)).filter q).length = kk) := by rw [HSTEP.out, if_neg hqz]; exact rfl
              clear hqz hyz2
              go_quiet (fail)
              go_wp2
              go_roundw
              case rel => exact ⟨j + 1, by omega, by go_num, by rw [HE.out], (by first | exact HB9.out | exact HB9.out.drew | exact below_drewq HB9.out _)⟩
              case measure => simp [intOf]; omega
          · have hd5 : decide (kk < nb) = false := by simpa using hkn
            have hqz : ¬ q z = true := fun h => by
              have h1 := filter_at q A j z HZ.out h
              rw [← HKK.out, ← HBE.out] at h1
              have := (List.getElem?_eq_some_iff.1 h1).1
              rw [← HNB.out] at this
              omega
            have HE : Hid (((A.take (j + 1)).filter q).length = kk) := by rw [HSTEP.out, if_neg hqz]; exact rfl
            clear hqz
            go_quiet (fail)
            go_wp2
            go_roundw
            case rel => exact ⟨j + 1, by omega, by go_num, by rw [HE.out], (by first | exact HB9.out | exact HB9.out.drew | exact below_drewq HB9.out _)⟩
            case measure => simp [intOf]; omega
      · obtain rfl : na = j := by omega
        have HK : Hid (((A.take na).filter q).length = nb) := by
          have : A.take na = A := List.take_of_length_le (by rw [HNA.out]; exact Nat.le_refl _)
          rw [this, ← HBE.out, ← HNB.out]
          exact rfl
        rw [HK.out]
        go_wp2_with fail
        (with_reducible refine (HL25.out _ (HB6.out.trans (HBR2.out.mono (by omega)))).mono ?_)
        rintro e w7 ⟨a7, c7, rfl, hc7, hr7, hB7⟩
        have HB7 := Lib.hid (HB6.out.trans ((HBR2.out.trans (hB7.mono hbs)).mono (by omega)))
        clear hB7 hr7
        go_wp2_with fail
        (with_reducible refine (known12_any _).mono ?_)
        rintro e w8 ⟨rfl, hB8⟩
        go_wp2_with fail
        go_ret
        have hBW := HT.out.below.trans (HB7.out.mono HT.out.below.size)
        exact ⟨rfl, hBW.trans (hB8.mono hBW.size)⟩
end Go.Proofs.Ytcmlfaolooglfaa.wormLives
