/- The walk of PathBack: it returns true for any text and any names. -/
import Derived.Test.YtdgmndahfbmgfaaDoorStrArg
namespace Go.Proofs.YtdgmndahfbmgfaaDoor.pathBack
open Go.ChangeShapes Go.WideShapes Go.ChangeAt Go.RowKit
set_option linter.unusedVariables false

theorem good_snoc {gs : List ByteArray} {x : ByteArray} (h : ∀ s ∈ gs, s.size ≤ maxLen) (hx : x.size ≤ maxLen) : ∀ s ∈ gs ++ [x], s.size ≤ maxLen := by
  intro s hs
  rcases List.mem_append.1 hs with hs | hs
  · exact h s hs
  · rw [List.mem_singleton.1 hs]; exact hx

/-- What the loop that collects good names keeps. -/
def GoodRel (W : World) (len : Nat) (v i : Value) (wr : World) : Prop :=
  ∃ (k : Nat) (gs : List ByteArray), i = .int .i64 k ∧ k ≤ len ∧ wr.ownsRow W.heap.size 9 1 v gs.length (gs.map .string) ∧ Below W.heap.size W wr ∧ (bls gs).all goodL = true ∧ (∀ s ∈ gs, s.size ≤ maxLen) ∧ gs.length ≤ 8

set_option maxHeartbeats 2000000 in
theorem walk {H : Type} {enc : TypeId × Value → H} (W : World) (base : Nat) (hsh : W.ShapedOpen Tryd.prog) (a0 : ByteArray) (w0 : a0.size ≤ maxLen) (v1 : Value) (d1 : DataW H) (p1 : List MemPlace) (o1 : Value.okWide Tryd.prog W .any base 22 v1) (h1 : DataW.Trod enc Tryd.prog W 0 (fun _ => true) true 22 v1 d1 p1) (l1 : ∀ x ∈ p1, x.block < W.heap.size) (hsz : (DataW.weightsEach Tryd.prog [9, 22] ([.lit (.string a0.data.toList), d1] : List (DataW H))).all (· ≤ reachBytes) = true) :
    Calls Tryd.prog 3 #[.string a0, v1] W (Fine W) := by
  obtain ⟨m, hm, hz0⟩ := maxLen_cell hsh
  obtain ⟨a, len, cap, ss, rest, rfl, hcap, hS, _⟩ := open_strsAt o1 h1 l1
  obtain ⟨i0, hi, hz, hz1, hz2⟩ := info_parts infoString
  clear hsz hsh o1 h1 l1
  have hlm := hS.row.small
  unfold maxLen at hlm
  obtain ⟨l, hl⟩ : ∃ l, l = a0.data.toList.take 300 := ⟨_, rfl⟩
  have hll : l.length ≤ 300 := by rw [hl]; simp; omega
  have HH := head_any a0 300 W (by decide) w0 (by decide)
  rw [show (300 : Int).toNat = 300 from rfl, ← hl] at HH
  have hsl := split_len l
  have hjl := split_join_len l
  have HM := Lib.hid hm
  clear hm hl
  have SP := split_any (bmk l) W (by rw [bmk_size]; omega) m HM.out
  rw [bmk_data] at SP
  generalize hpl : pathSplit l = pl at hsl hjl
  have HPL := Lib.hid hpl
  have hback : pl.2 = 0 → pathJoin pl.1 = l := fun h => by rw [← hpl] at h ⊢; exact split_back l h
  have hbad : pl.2 ≠ 0 → pl.1 = [] := fun h => by rw [← hpl] at h ⊢; exact split_bad l h
  clear hpl
  go_enter Tryd.func3, Tryd.ntmps3
  go_wp2_with fail
  refine HH.mono ?_
  rintro e w1 ⟨rfl, rfl⟩
  clear HH
  go_wp2_with fail
  refine SP.mono ?_
  rintro e w1 ⟨a1, n1, c1, s1, rfl, hc1, hb1, hS1, hB1⟩
  rw [HPL.out] at hb1 ⊢
  clear SP
  have hn1 := hS1.length
  have hln : pl.1.length = n1 := by rw [← hb1, bls_len]; exact hn1
  have HB := Lib.hid hb1
  have HN := Lib.hid hln
  have hn300 : n1 ≤ 300 := by omega
  clear hb1 hn1 hln
  by_cases hc : pl.2 = 0
  · have e1 : ((pl.2 : Int) == 0) = true := by simp [hc]
    have e2 : ((pl.2 : Int) != 0) = false := by simp [hc]
    have hj := hback hc
    clear hback hbad hc
    have hj' : pathJoin (bls s1) = l := by rw [HB.out]; exact hj
    have hjl1 : (Lib.join (bls s1) [47]).length ≤ 140737488355327 := by
      have h5 := congrArg List.length hj'
      simp only [pathJoin, List.length_cons] at h5
      omega
    have JJ := join_any a1 n1 c1 s1 w1 hS1 hc1 hjl1 (by omega)
    rw [hj'] at JJ
    clear hj hj' hjl1
    go_wp2_with fail
    refine JJ.mono ?_
    rintro e w2 ⟨rfl, hB2⟩
    clear JJ
    go_wp2_with fail
    have hB := hB1.trans (hB2.mono hB1.size)
    clear hB1 hB2 hS1
    go_wp2_with fail
    go_loopw [7, 8] (GoodRel W len) (fun _ i _ => len - (intOf i).toNat)
    case atStart => exact ⟨0, [], rfl, by omega, World.ownsRow_nil _ _ _ _, hB, rfl, by simp, by simp⟩
    case round =>
      obtain ⟨k, gs, rfl, hk, hown, hb, hall, hsh, hg8⟩ := hrel
      obtain ⟨ga, gc, rfl, hG⟩ := own_strs hown hsh
      have hgc := own_cap hown
      have HALL := Lib.hid hall
      have HSH := Lib.hid hsh
      clear hall hsh
      have hbz := hb.size
      by_cases hlt : k < len ∧ gs.length < 8
      · obtain ⟨hlt, h8⟩ := hlt
        obtain ⟨b, off, x, rfl, _, hbW, hx, hxs, hcell⟩ := (hS.below hb (Nat.le_refl _)).cell k hlt
        have hbW' : b < W.heap.size := by obtain ⟨b', off', e, hS', _⟩ := hS.row.at_ (by omega); simp only [Option.some.injEq, Addr.mk.injEq] at e; omega
        clear hS hx
        cases hg : goodL x.data.toList
        · have HG := Lib.hid hg
          have hown0 := Lib.hid hown
          clear hg hown hG
          go_wp2_with fail
          refine (good_any _ _ hxs).mono ?_
          rintro e w3 ⟨rfl, hB3⟩
          rw [HG.out]
          go_wp2_with fail
          go_roundw
          case rel => exact ⟨k + 1, gs, by go_num, by omega, below_own hown0.out hB3, hb.trans (hB3.mono hbz), HALL.out, HSH.out, hg8⟩
          case measure => simp [intOf]; omega
        · have HG := Lib.hid hg
          have hown0 := Lib.hid hown
          clear hg hown hG
          go_wp2_with fail
          refine (good_any _ _ hxs).mono ?_
          rintro e w3 ⟨rfl, hB3⟩
          rw [HG.out]
          have hcell3 : w3.cell? ⟨b, off + k, none⟩ = some (.string x) := (hB3.cell (p := ⟨b, off + k, none⟩) hbW).trans hcell
          have hown3 := below_own hown0.out hB3
          have hb3 := hb.trans (hB3.mono hbz)
          have hz3 := hb3.size
          clear hcell
          go_wp2_with (at_builtin; refine wpList_append_own _ rfl _ _ 22 rfl W.heap.size 9 i0 (.string ByteArray.empty) 1 16 Tryd.underlying22 hi hz hz1 hz2 rfl (by decide) _ _ _ rfl (hown3.alloc _) ⟨w3.heap.size, 0, none⟩ 1 1 [.string x] rfl rfl (one_new _ _ _) (by simp [Value.oneCell']) (by unfold maxLen; omega) (by omega) (by simp; omega) ?_; intro v' w4 hown4 hgrow _)
          go_roundw
          case rel => exact ⟨k + 1, gs ++ [x], by go_num, by omega, by simpa using hown4, (hb3.alloc hz3 _).grown hgrow (by simp; omega) (fun k hk => (hown3.lt k hk).1), by rw [bls_append, List.all_append, HALL.out]; simp [bls, HG.out], good_snoc HSH.out hxs, by simp; omega⟩
          case measure => simp [intOf]; omega
      · have hjl9 := join_len (bls gs) HALL.out
        rw [bls_len] at hjl9
        have hjl2 : (Lib.join (bls gs) [47]).length ≤ 140737488355327 := by
          simp only [pathJoin, List.length_cons] at hjl9
          omega
        have JJ := join_any ga gs.length gc gs wr hG hgc hjl2 (by omega)
        have hspl : pathSplit (pathJoin (bls gs)) = (bls gs, 0) := split_of_join _ HALL.out (by rw [bls_len]; exact hg8)
        obtain ⟨jl, hjx⟩ : ∃ jl, jl = pathJoin (bls gs) := ⟨_, rfl⟩
        rw [← hjx] at JJ hspl hjl9
        have HSPL := Lib.hid hspl
        clear hjx hspl hjl2 hown
        have hexit : (¬ (k : Int) < (len : Int)) ∨ ((k : Int) < (len : Int) ∧ ¬ (gs.length : Int) < 8) := by omega
        clear hlt
        rcases hexit with hx1 | ⟨hx1, hx2⟩
        all_goals
          go_wp2_with fail
          refine JJ.mono ?_
          rintro e w3 ⟨rfl, hB3⟩
          have hb3 := hb.trans (hB3.mono hbz)
          have hbz3 := hb3.size
          go_wp2_with fail
          refine (split_any (bmk jl) w3 (by rw [bmk_size]; omega) m ((hb3.cell (p := ⟨0, 0, none⟩) hz0).trans HM.out)).mono ?_
          rintro e w4 ⟨a5, n5, c5, s5, rfl, hc5, hs5, hS5, hB5⟩
          rw [bmk_data] at hs5 ⊢
          rw [HSPL.out] at hs5 ⊢
          obtain rfl : s5 = gs := bls_inj hs5
          clear hs5
          go_wp2_with fail
          refine (same_any _ _ _ _ _ _ _ _ _ hS5 ((hG.below hB3 (Nat.le_refl _)).below hB5 (Nat.le_refl _))).mono ?_
          rintro e w5 ⟨rfl, hB6⟩
          have hb5 := hb3.trans (hB5.mono hbz3)
          have hbz5 := hb5.size
          have hb6 := hb5.trans (hB6.mono hbz5)
          have hbz6 := hb6.size
          rw [show decide (s5 = s5) = true by simp]
          go_wp2_with fail
          refine (known7_any w5 m ((hb6.cell (p := ⟨0, 0, none⟩) hz0).trans HM.out) (by omega)).mono ?_
          rintro e w6 ⟨rfl, hB7⟩
          go_wp2_with fail
          go_ret
          exact ⟨rfl, hb6.trans (hB7.mono hbz6)⟩
  · have e1 : ((pl.2 : Int) == 0) = false := by simp [hc]
    have e2 : ((pl.2 : Int) != 0) = true := by simp [hc]
    have hn0 : n1 = 0 := by have := HN.out; rw [hbad hc] at this; simpa using this.symm
    subst hn0
    clear hback hbad hc
    have hB := hB1
    clear hB1 hS1
    go_wp2_with fail
    go_loopw [7, 8] (GoodRel W len) (fun _ i _ => len - (intOf i).toNat)
    case atStart => exact ⟨0, [], rfl, by omega, World.ownsRow_nil _ _ _ _, hB, rfl, by simp, by simp⟩
    case round =>
      obtain ⟨k, gs, rfl, hk, hown, hb, hall, hsh, hg8⟩ := hrel
      obtain ⟨ga, gc, rfl, hG⟩ := own_strs hown hsh
      have hgc := own_cap hown
      have HALL := Lib.hid hall
      have HSH := Lib.hid hsh
      clear hall hsh
      have hbz := hb.size
      by_cases hlt : k < len ∧ gs.length < 8
      · obtain ⟨hlt, h8⟩ := hlt
        obtain ⟨b, off, x, rfl, _, hbW, hx, hxs, hcell⟩ := (hS.below hb (Nat.le_refl _)).cell k hlt
        have hbW' : b < W.heap.size := by obtain ⟨b', off', e, hS', _⟩ := hS.row.at_ (by omega); simp only [Option.some.injEq, Addr.mk.injEq] at e; omega
        clear hS hx
        cases hg : goodL x.data.toList
        · have HG := Lib.hid hg
          have hown0 := Lib.hid hown
          clear hg hown hG
          go_wp2_with fail
          refine (good_any _ _ hxs).mono ?_
          rintro e w3 ⟨rfl, hB3⟩
          rw [HG.out]
          go_wp2_with fail
          go_roundw
          case rel => exact ⟨k + 1, gs, by go_num, by omega, below_own hown0.out hB3, hb.trans (hB3.mono hbz), HALL.out, HSH.out, hg8⟩
          case measure => simp [intOf]; omega
        · have HG := Lib.hid hg
          have hown0 := Lib.hid hown
          clear hg hown hG
          go_wp2_with fail
          refine (good_any _ _ hxs).mono ?_
          rintro e w3 ⟨rfl, hB3⟩
          rw [HG.out]
          have hcell3 : w3.cell? ⟨b, off + k, none⟩ = some (.string x) := (hB3.cell (p := ⟨b, off + k, none⟩) hbW).trans hcell
          have hown3 := below_own hown0.out hB3
          have hb3 := hb.trans (hB3.mono hbz)
          have hz3 := hb3.size
          clear hcell
          go_wp2_with (at_builtin; refine wpList_append_own _ rfl _ _ 22 rfl W.heap.size 9 i0 (.string ByteArray.empty) 1 16 Tryd.underlying22 hi hz hz1 hz2 rfl (by decide) _ _ _ rfl (hown3.alloc _) ⟨w3.heap.size, 0, none⟩ 1 1 [.string x] rfl rfl (one_new _ _ _) (by simp [Value.oneCell']) (by unfold maxLen; omega) (by omega) (by simp; omega) ?_; intro v' w4 hown4 hgrow _)
          go_roundw
          case rel => exact ⟨k + 1, gs ++ [x], by go_num, by omega, by simpa using hown4, (hb3.alloc hz3 _).grown hgrow (by simp; omega) (fun k hk => (hown3.lt k hk).1), by rw [bls_append, List.all_append, HALL.out]; simp [bls, HG.out], good_snoc HSH.out hxs, by simp; omega⟩
          case measure => simp [intOf]; omega
      · have hjl9 := join_len (bls gs) HALL.out
        rw [bls_len] at hjl9
        have hjl2 : (Lib.join (bls gs) [47]).length ≤ 140737488355327 := by
          simp only [pathJoin, List.length_cons] at hjl9
          omega
        have JJ := join_any ga gs.length gc gs wr hG hgc hjl2 (by omega)
        have hspl : pathSplit (pathJoin (bls gs)) = (bls gs, 0) := split_of_join _ HALL.out (by rw [bls_len]; exact hg8)
        obtain ⟨jl, hjx⟩ : ∃ jl, jl = pathJoin (bls gs) := ⟨_, rfl⟩
        rw [← hjx] at JJ hspl hjl9
        have HSPL := Lib.hid hspl
        clear hjx hspl hjl2 hown
        have hexit : (¬ (k : Int) < (len : Int)) ∨ ((k : Int) < (len : Int) ∧ ¬ (gs.length : Int) < 8) := by omega
        clear hlt
        rcases hexit with hx1 | ⟨hx1, hx2⟩
        all_goals
          go_wp2_with fail
          refine JJ.mono ?_
          rintro e w3 ⟨rfl, hB3⟩
          have hb3 := hb.trans (hB3.mono hbz)
          have hbz3 := hb3.size
          go_wp2_with fail
          refine (split_any (bmk jl) w3 (by rw [bmk_size]; omega) m ((hb3.cell (p := ⟨0, 0, none⟩) hz0).trans HM.out)).mono ?_
          rintro e w4 ⟨a5, n5, c5, s5, rfl, hc5, hs5, hS5, hB5⟩
          rw [bmk_data] at hs5 ⊢
          rw [HSPL.out] at hs5 ⊢
          obtain rfl : s5 = gs := bls_inj hs5
          clear hs5
          go_wp2_with fail
          refine (same_any _ _ _ _ _ _ _ _ _ hS5 ((hG.below hB3 (Nat.le_refl _)).below hB5 (Nat.le_refl _))).mono ?_
          rintro e w5 ⟨rfl, hB6⟩
          have hb5 := hb3.trans (hB5.mono hbz3)
          have hbz5 := hb5.size
          have hb6 := hb5.trans (hB6.mono hbz5)
          have hbz6 := hb6.size
          rw [show decide (s5 = s5) = true by simp]
          go_wp2_with fail
          refine (known7_any w5 m ((hb6.cell (p := ⟨0, 0, none⟩) hz0).trans HM.out) (by omega)).mono ?_
          rintro e w6 ⟨rfl, hB7⟩
          go_wp2_with fail
          go_ret
          exact ⟨rfl, hb6.trans (hB7.mono hbz6)⟩
end Go.Proofs.YtdgmndahfbmgfaaDoor.pathBack
