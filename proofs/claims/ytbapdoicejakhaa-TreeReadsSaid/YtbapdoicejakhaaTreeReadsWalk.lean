/- TreeReads: the walk. -/
import Derived.Test.YtbapdoicejakhaaTreeS
import Derived.Test.YtbapdoicejakhaaRowsArg
import Derived.Test.YtbapdoicejakhaaWithin
import Derived.Test.YtbapdoicejakhaaHead
import Derived.Deep.CutBlock
import Derived.Deep.DeepCutAuto
namespace Go.Proofs.Ytbapdoicejakhaa.treeReads
open Go.ChangeShapes Go.WideShapes Go.ChangeAt Go.RowKit
set_option linter.unusedVariables false
set_option linter.unusedSimpArgs false

/-- What the loop keeps: the file's bytes are those of 'all'. -/
def RRel (W : World) (p : Nat) (k : Nat) (v : Value) (wr : World) : Prop :=
  ∃ (P : Nat → Prop) (xs : List UInt8), TreeIn W P wr p (stF xs false 0) ∧ xs.length ≤ 100 * k ∧ (∀ b, v.ownBlock = some b → P b) ∧ wr.ownsRow W.heap.size 5 1 v xs.length (xs.map bv)
theorem treeIn_keepsP {W w w' : World} {P fp : Nat → Prop} {p : Nat} {T : TrM} (h : TreeIn W P w p T) (hK : Keeps fp w w') (hfp : ∀ x, fp x → P x) (hB : Below W.heap.size W w') : TreeIn W (fun x => P x ∨ (w.heap.size ≤ x ∧ x < w'.heap.size)) w' p T := by
  obtain ⟨g, D, mb, ib, nb, hA, hF⟩ := h.at_
  refine ⟨⟨g, D, mb, ib, nb, hA.keeps hK (fun b hb hf => (hF b hb).2 (hfp b hf)), fun x hx => ⟨(hF x hx).1, fun hp => ?_⟩⟩, h.ok, hB, fun x hx => ?_⟩
  · rcases hp with hp | hp
    · exact (hF x hx).2 hp
    · rcases hx with hx | hx
      · have := hA.low x hx; omega
      · have := hA.dlow x hx; omega
  · rcases hx with hx | hx
    · exact Nat.lt_of_lt_of_le (h.low x hx) hK.size
    · exact hx.2
theorem own_keeps {w w' : World} {base : Nat} {e : TypeId} {size : Nat} {v : Value} {n : Nat} {xs : List Value} {fp : Nat → Prop} (h : w.ownsRow base e size v n xs) (hK : Keeps fp w w') (hn : ∀ b, v.ownBlock = some b → ¬ fp b) : w'.ownsRow base e size v n xs := by
  refine ⟨h.1, ?_⟩
  rcases h.2 with h0 | ⟨g, cap, cur, rfl, hb, hg, r⟩
  · exact .inl h0
  · exact .inr ⟨g, cap, cur, rfl, hb, (hK.block g (Array.getElem?_eq_some_iff.1 hg).1 (hn g rfl)).trans hg, r⟩
/-- Behind the loop. -/
def RDone (W : World) (p : Nat) (v : Value) (wr : World) : Prop := ∃ k, k ≤ 20 ∧ RRel W p k v wr

set_option maxRecDepth 100000 in
set_option maxHeartbeats 8000000 in
theorem walk {H : Type} {enc : TypeId × Value → H} (W : World) (base : Nat) (v0 : Value) (d0 : DataW H) (p0 : List MemPlace) (o0 : Value.okWide Try.prog W .any base 22 v0) (h0 : DataW.Trod enc Try.prog W 0 (fun _ => true) true 22 v0 d0 p0) (l0 : ∀ x ∈ p0, x.block < W.heap.size) (a1 : Int) (w1 : (Lit.int .i64 a1).wf = true) (a2 : Int) (w2 : (Lit.int .i64 a2).wf = true) (hsz : (DataW.weightsEach Try.prog [22, 3, 3] ([d0, .lit (.int .i64 a1), .lit (.int .i64 a2)] : List (DataW H))).all (· ≤ reachBytes) = true) :
    Calls Try.prog 3 #[v0, .int .i64 a1, .int .i64 a2] W (Fine W) := by
  obtain ⟨a, len, cap, rfl, hlc, hA⟩ : ∃ a len cap, v0 = .slice a len cap ∧ len ≤ cap ∧ PiecesAt W a len := by
    obtain ⟨a0, len, cap, rfl⟩ := okWide_slice Try.underlying22 o0
    obtain ⟨fuel, hf⟩ := h0
    exact open_piecesT hf l0
  obtain ⟨ti, hi, hz0, hz1, hz2⟩ := info_parts Try.info8
  have hlm := hA.1
  unfold maxLen at hlm
  have HA := Lib.hid hA
  have W1 := Lib.hid w1
  have W2 := Lib.hid w2
  clear hA o0 h0 l0 hsz hlc w1 w2
  go_enter Try.func3, Try.ntmps3
  go_wp2_with fail
  (with_reducible refine (in_new W _ (Below.refl _ _)).mono ?_)
  rintro e w1 ⟨p, rfl, hT1, hb1⟩
  have HT := Lib.hid hT1
  clear hT1 hb1
  go_wp2_with fail
  (with_reducible refine (sf_make HT.out).mono ?_)
  rintro e w2 ⟨rfl, hT2, hK2⟩
  have HT := Lib.hid hT2
  clear hT2 hK2
  go_upto_block 0 with (fail)
  go_cut [10] from 31 to 53 (fun v wx => RDone W p v wx)
  case first =>
    go_wp2_with fail
    go_loopw [10, 11] (fun v i wr => ∃ k : Nat, i = .int .i64 k ∧ k ≤ 20 ∧ RRel W p k v wr) (fun _ i _ => 20 - (intOf i).toNat)
    case atStart => exact ⟨0, rfl, by omega, _, [], HT.out, by simp, by simp [Value.ownBlock], ⟨rfl, .inl ⟨rfl, rfl⟩⟩⟩
    case round =>
      obtain ⟨k, rfl, hk20, hR⟩ := hrel
      obtain ⟨P, xs, hT, hxl, hP, hO⟩ := hR
      have HT := Lib.hid hT
      have HP := Lib.hid hP
      have HO := Lib.hid hO
      have HBW := Lib.hid hT.below
      clear hT hP hO
      by_cases hlt : k < len
      · have hd1 : decide (k < len) = true := by simpa using hlt
        by_cases h20 : k < 20
        · obtain ⟨g, off, rfl, hgw, hAk⟩ := HA.out.2 (by omega)
          obtain ⟨aa, ll, cc, bs, hcell, hlc, hrow⟩ := hAk k hlt
          have i0 : (0 : Int) ≤ (k : Int) := by omega
          have i1 : (k : Int) < (len : Int) := by omega
          have i2 : (k : Int) < 20 := by omega
          have hd2 : decide ((k : Int) < 20) = true := by simpa using i2
          have q0 : wr.cell? ⟨g, off + k, none⟩ = some (.slice aa ll cc) := (HBW.out.cell hgw).trans hcell
          have hlm2 := hrow.small
          have hcut : ∀ w, Calls Try.prog 7 #[.slice aa ll cc, .int .i64 100] w fun e w' => e = .returned (.slice aa (min ll 100) cc) ∧ w = w' := fun w => cut_any aa ll cc 100 hlc (by omega) hlm2 w
          have HX : Hid (RowAt (Old W) W aa (min ll 100) ((bs.take 100).map bv)) := by
            have := hrow.take 100
            rw [← List.map_take] at this
            exact this
          have hxl2 : (bs.take 100).length ≤ 100 := by rw [List.length_take]; omega
          have HCUT := Lib.hid hcut
          clear hAk hcell hrow hcut hlm2 hlc
          generalize bs.take 100 = ys at HX hxl2
          obtain ⟨m, hm⟩ : ∃ m, m = min ll 100 := ⟨_, rfl⟩
          rw [← hm] at HX HCUT
          have hym : ys.length = m := by have := HX.out.length; simpa using this
          have HYM := Lib.hid hym
          have hm2 : m ≤ 100 := by omega
          clear hm hym
          go_wp2_with fail
          (with_reducible refine (HCUT.out _).mono ?_)
          rintro e w3 ⟨rfl, rfl⟩
          go_wp2_with fail
          (with_reducible refine (sf_append HT.out aa m cc ys (HX.out.below HBW.out (Nat.le_refl _)) (by omega)).mono ?_)
          rintro e w4 ⟨rfl, hT4, hK4⟩
          have HT4 := Lib.hid hT4
          have HO4 := Lib.hid (own_keeps HO.out hK4 (fun b hb hf => hf.2 (HP.out b hb)))
          have hs4 := hT4.below.size
          have HROW := Lib.hid (HX.out.below hT4.below (Nat.le_refl _))
          clear hT4 hK4
          have hlen2 : xs.length + m ≤ 3000 := by omega
          go_wp2_with (at_builtin; refine wpList_append_row (by rfl) _ _ 29 (by rfl) W.heap.size 5 ti (.int .u8 0) 1 Try.underlying29 hi hz0 hz1 hz2 rfl _ _ _ (by rfl) HO4.out aa m cc (ys.map bv) (by rfl) HROW.out (bytes_one ys) (by unfold maxLen; omega) (by omega) hs4 ?_; intro A' c' w5 hown5 hgrow5 _ hblk5)
          have HOW := Lib.hid hown5
          have HGR := Lib.hid hgrow5
          have HBL := Lib.hid hblk5
          clear hown5 hgrow5 hblk5
          go_roundw
          case rel =>
            have hB5 : Below W.heap.size W w5 := HT4.out.below.grown HGR.out hs4 (own_block_ge HO4.out)
            refine ⟨k + 1, by go_num, by omega, _, xs ++ ys, treeIn_keepsP HT4.out (Keeps.grown HGR.out) (fun x hx => HP.out x hx) hB5, by rw [List.length_append]; omega, fun b hb => ?_, ?_⟩
            · rcases HBL.out with h1 | h1
              · exact .inl (HP.out b (h1 ▸ hb))
              · rw [h1] at hb
                simp only [Option.some.injEq] at hb
                subst hb
                refine .inr ⟨Nat.le_refl _, ?_⟩
                rcases HOW.out.2 with ⟨h2, _⟩ | ⟨g2, cap2, cur2, h2, _, h3, _⟩
                · rw [h2] at h1; cases h1
                · rw [h2] at h1
                  simp only [Value.ownBlock, Option.some.injEq] at h1
                  rw [← h1]
                  exact (Array.getElem?_eq_some_iff.1 h3).1
            · rw [List.length_append, HYM.out, List.map_append]
              exact HOW.out
          case measure => simp [intOf]; omega
        · have hd2 : decide ((k : Int) < 20) = false := by simp; omega
          go_wp2_with fail
          go_meet
          exact ⟨k, hk20, P, xs, HT.out, hxl, HP.out, HO.out⟩
      · have hd1 : decide (k < len) = false := by simpa using hlt
        go_wp2_with fail
        go_meet
        exact ⟨k, hk20, P, xs, HT.out, hxl, HP.out, HO.out⟩
  case rest =>
    obtain ⟨k, hk, P, xs, hT, hxl, hP, hO⟩ := hcut
    obtain ⟨w3, rfl⟩ : ∃ w3 : World, w3 = wc := ⟨_, rfl⟩
    obtain ⟨ad, c, rfl, hnc⟩ := own_form hO
    have hrow := (RowAt.of_own hO).2
    have HT := Lib.hid hT
    have HROW := Lib.hid hrow
    have hA2 := withinI_bd a1 0 3000 (by omega)
    have hN2 := withinI_bd a2 0 3000 (by omega)
    have HW1 := Lib.hid (fun w => within_any a1 0 3000 w W1.out (by omega) (by omega) (by omega))
    have HW2 := Lib.hid (fun w => within_any a2 0 3000 w W2.out (by omega) (by omega) (by omega))
    obtain ⟨A, hAe⟩ : ∃ A : Nat, withinI a1 0 3000 = A := ⟨(withinI a1 0 3000).toNat, by omega⟩
    obtain ⟨N, hNe⟩ : ∃ N : Nat, withinI a2 0 3000 = N := ⟨(withinI a2 0 3000).toNat, by omega⟩
    rw [hAe] at hA2 HW1
    rw [hNe] at hN2 HW2
    have hA3 : A ≤ 3000 := by omega
    have hN3 : N ≤ 3000 := by omega
    have hn2 : xs.length ≤ 2000 := by omega
    clear hT hO hrow hAe hNe hA2 hN2 hxl
    go_wp2_with fail
    (with_reducible refine (HW1.out _).mono ?_)
    rintro e w4 ⟨rfl, rfl⟩
    go_wp2_with fail
    (with_reducible refine (HW2.out _).mono ?_)
    rintro e w4 ⟨rfl, rfl⟩
    by_cases hlt : A < xs.length
    · have hd1 : decide (A < xs.length) = true := by simpa using hlt
      obtain ⟨g, off, rfl, hg1, hg2, hgc⟩ := HROW.out.at_ (by omega)
      have hAc : (A : Int) ≤ (c : Int) := by omega
      have hA0 : (0 : Int) ≤ (A : Int) := by omega
      have HAC : Hid (A < c) := by have : A < c := by omega
                                   exact this
      have hdr := HROW.out.drop A
      rw [← List.map_drop] at hdr
      have hcv := conv_row (c := c - A) hdr
      clear hdr
      go_wp2_with fail
      (with_reducible refine (head_any (strOf (xs.drop A)) (N : Int) _ (by omega) (by rw [strOf_size, List.length_drop]; unfold maxLen; omega) (by omega)).mono ?_)
      rintro e w5 ⟨rfl, rfl⟩
      rw [strOf_data, show (N : Int).toNat = N from rfl]
      clear hcv
      go_wp2_with fail
      (with_reducible refine (sf_read HT.out (A : Int) (N : Int) (by omega) (by omega) (by omega) (by omega)).mono ?_)
      rintro e w5 ⟨a5, n5, c5, rfl, hn5, hr5, hB5⟩
      have HT5 := Lib.hid (HT.out.grow hB5)
      have HB5 := Lib.hid hB5
      have HR5 := Lib.hid hr5
      clear hr5 hB5
      go_wp2_with fail
      (with_reducible refine (sf_read HT5.out 0 4096 (by omega) (by omega) (by omega) (by omega)).mono ?_)
      rintro e w6 ⟨a6, n6, c6, rfl, hn6, hr6, hB6⟩
      have HT6 := Lib.hid (HT5.out.grow hB6)
      have HB6 := Lib.hid hB6
      have HR6 := Lib.hid hr6
      clear hr6 hB6
      go_wp2_with fail
      (with_reducible refine (sf_node HT6.out).mono ?_)
      rintro e w7 ⟨rfl, hB7⟩
      have HB7 := Lib.hid hB7
      have hs4 := HT.out.below.size
      have hs5 := HB5.out.size
      have hs6 := HB6.out.size
      have hs7 := HB7.out.size
      have hB78 : Below w7.heap.size w7 (w7.alloc (.cells #[.int .i64 1, .int .i64 1, .int .i64 1, .int .i64 xs.length, .int .u64 0, .bool false] 38)) := wall w7 _
      have HB48 := Lib.hid (HB5.out.trans ((HB6.out.trans ((HB7.out.trans (hB78.mono hs7)).mono hs6)).mono hs5))
      have HB58 := Lib.hid (HB6.out.trans ((HB7.out.trans (hB78.mono hs7)).mono hs6))
      have HB68 := Lib.hid (HB7.out.trans (hB78.mono hs7))
      have g3 := item_block (MapKept.heap_alloc w7 (.cells #[.int .i64 1, .int .i64 1, .int .i64 1, .int .i64 xs.length, .int .u64 0, .bool false] 38)).1 3
      have g5 := item_block (MapKept.heap_alloc w7 (.cells #[.int .i64 1, .int .i64 1, .int .i64 1, .int .i64 xs.length, .int .u64 0, .bool false] 38)).1 5
      have hcv1 := conv_row (c := c5) (HR5.out.below HB58.out (Nat.le_refl _))
      rw [show List.take (Int.toNat (N : Int)) (List.drop (Int.toNat (A : Int)) xs) = (xs.drop A).take N from rfl] at hcv1
      have hcv2 := conv_row (c := c6) (HR6.out.below HB68.out (Nat.le_refl _))
      rw [show List.take (Int.toNat 4096) (List.drop (Int.toNat 0) xs) = xs from (by
        show (xs.drop 0).take 4096 = xs
        rw [List.drop_zero, List.take_of_length_le (by omega)])] at hcv2
      have hcv3 := conv_row (c := c) (HROW.out.below HB48.out (Nat.le_refl _))
      clear hB7 hB78
      go_wp2_with fail
      (with_reducible refine (known11_any _).mono ?_)
      rintro e we ⟨rfl, hBe⟩
      go_wp2_with fail
      go_ret
      have hBW := HT.out.below.trans (HB48.out.mono hs4)
      exact ⟨rfl, hBW.trans (hBe.mono hBW.size)⟩
    · have hd1 : decide (A < xs.length) = false := by simpa using hlt
      have HE : Hid ((xs.drop A).take N = []) := by
        show (xs.drop A).take N = []
        rw [List.drop_of_length_le (by omega), List.take_nil]
      go_wp2_with fail
      (with_reducible refine (sf_read HT.out (A : Int) (N : Int) (by omega) (by omega) (by omega) (by omega)).mono ?_)
      rintro e w5 ⟨a5, n5, c5, rfl, hn5, hr5, hB5⟩
      have HT5 := Lib.hid (HT.out.grow hB5)
      have HB5 := Lib.hid hB5
      have HR5 := Lib.hid hr5
      clear hr5 hB5
      go_wp2_with fail
      (with_reducible refine (sf_read HT5.out 0 4096 (by omega) (by omega) (by omega) (by omega)).mono ?_)
      rintro e w6 ⟨a6, n6, c6, rfl, hn6, hr6, hB6⟩
      have HT6 := Lib.hid (HT5.out.grow hB6)
      have HB6 := Lib.hid hB6
      have HR6 := Lib.hid hr6
      clear hr6 hB6
      go_wp2_with fail
      (with_reducible refine (sf_node HT6.out).mono ?_)
      rintro e w7 ⟨rfl, hB7⟩
      have HB7 := Lib.hid hB7
      have hs4 := HT.out.below.size
      have hs5 := HB5.out.size
      have hs6 := HB6.out.size
      have hs7 := HB7.out.size
      have hB78 : Below w7.heap.size w7 (w7.alloc (.cells #[.int .i64 1, .int .i64 1, .int .i64 1, .int .i64 xs.length, .int .u64 0, .bool false] 38)) := wall w7 _
      have HB48 := Lib.hid (HB5.out.trans ((HB6.out.trans ((HB7.out.trans (hB78.mono hs7)).mono hs6)).mono hs5))
      have HB58 := Lib.hid (HB6.out.trans ((HB7.out.trans (hB78.mono hs7)).mono hs6))
      have HB68 := Lib.hid (HB7.out.trans (hB78.mono hs7))
      have g3 := item_block (MapKept.heap_alloc w7 (.cells #[.int .i64 1, .int .i64 1, .int .i64 1, .int .i64 xs.length, .int .u64 0, .bool false] 38)).1 3
      have g5 := item_block (MapKept.heap_alloc w7 (.cells #[.int .i64 1, .int .i64 1, .int .i64 1, .int .i64 xs.length, .int .u64 0, .bool false] 38)).1 5
      have hcv1 := conv_row (c := c5) (HR5.out.below HB58.out (Nat.le_refl _))
      rw [show List.take (Int.toNat (N : Int)) (List.drop (Int.toNat (A : Int)) xs) = (xs.drop A).take N from rfl, HE.out, show strOf [] = ⟨#[]⟩ from rfl] at hcv1
      have hcv2 := conv_row (c := c6) (HR6.out.below HB68.out (Nat.le_refl _))
      rw [show List.take (Int.toNat 4096) (List.drop (Int.toNat 0) xs) = xs from (by
        show (xs.drop 0).take 4096 = xs
        rw [List.drop_zero, List.take_of_length_le (by omega)])] at hcv2
      have hcv3 := conv_row (c := c) (HROW.out.below HB48.out (Nat.le_refl _))
      clear hB7 hB78
      go_wp2_with fail
      (with_reducible refine (known11_any _).mono ?_)
      rintro e we ⟨rfl, hBe⟩
      go_wp2_with fail
      go_ret
      have hBW := HT.out.below.trans (HB48.out.mono hs4)
      exact ⟨rfl, hBW.trans (hBe.mono hBW.size)⟩
end Go.Proofs.Ytbapdoicejakhaa.treeReads
