/- The walk of PathTells: it returns true for any text and any two lists of names that are together of bulk at most 1048576. -/
import Derived.Test.YtdgmndahfbmgfaaDoorAppendG
import Derived.Deep.CutRange
import Derived.Deep.DeepCutAuto
namespace Go.Proofs.YtdgmndahfbmgfaaDoor.pathTells
open Go.ChangeShapes Go.WideShapes Go.ChangeAt Go.RowKit
set_option linter.unusedVariables false

theorem bulk_tail {H : Type} : ∀ ss : List ByteArray, (Lib.joinTail [47] (bls ss)).length = Rows.uptoBulkAll (ss.map fun s => DataW.lit (H := H) (.string s.data.toList))
  | [] => rfl
  | s :: ss => by
    have h := bulk_tail (H := H) ss
    simp only [bls, Lib.joinTail, List.map_cons, List.flatten_cons, List.length_append, List.length_cons, List.length_nil, Rows.uptoBulkAll, Rows.uptoBulk] at h ⊢
    rw [h]
    omega
theorem bulk_join {H : Type} {ss : List ByteArray} {d : DataW H} {rest : List (DataW H)} (h : (ss = [] ∧ d = .nil) ∨ d = .slice (ss.map fun s => .lit (.string s.data.toList)) rest) (k : Nat) : (pathJoin (bls (ss.take k))).length ≤ Rows.uptoBulk d + 1 := by
  by_cases h0 : bls (ss.take k) = []
  · rw [h0]
    simp [pathJoin, Lib.join_nil]
  · rw [pathJoin_tail _ h0]
    have e : bls (ss.take k) = (bls ss).take k := by simp [bls]
    have h1 := joinTail_take [47] (bls ss) k
    rw [← e, bulk_tail (H := H)] at h1
    rcases h with ⟨rfl, rfl⟩ | rfl
    · exact absurd (by simp [bls]) h0
    · rw [bulk_tail (H := H)] at h1 ⊢
      simp only [Rows.uptoBulk]
      omega

/-- A list of at most twenty names, as it lies in memory. -/
def ListAt (W : World) (v : Value) (wx : World) : Prop :=
  ∃ (a : Option Addr) (n c : Nat) (ss : List ByteArray), v = .slice a n c ∧ n ≤ c ∧ n ≤ 20 ∧ StrsAt (fun b => b < W.heap.size) W a n ss ∧ (a = none → n = 0 ∧ c = 0) ∧ (pathJoin (bls ss)).length ≤ 1050000 ∧ W = wx

set_option maxRecDepth 100000 in
set_option maxHeartbeats 4000000 in
theorem walk {H : Type} {enc : TypeId × Value → H} (W : World) (base : Nat) (hsh : W.ShapedOpen Tryd.prog) (a0 : ByteArray) (w0 : a0.size ≤ maxLen) (v1 : Value) (d1 : DataW H) (p1 : List MemPlace) (o1 : Value.okWide Tryd.prog W .any base 22 v1) (h1 : DataW.Trod enc Tryd.prog W 0 (fun _ => true) true 22 v1 d1 p1) (l1 : ∀ x ∈ p1, x.block < W.heap.size) (v2 : Value) (d2 : DataW H) (p2 : List MemPlace) (o2 : Value.okWide Tryd.prog W .any base 22 v2) (h2 : DataW.Trod enc Tryd.prog W 0 (fun _ => true) true 22 v2 d2 p2) (l2 : ∀ x ∈ p2, x.block < W.heap.size) (hsz : (DataW.weightsEach Tryd.prog [9, 22, 22] ([.lit (.string a0.data.toList), d1, d2] : List (DataW H))).all (· ≤ reachBytes) = true) (hk : Rows.uptoSmall H [.lit (.string a0.data.toList), d1, d2] = true) :
    Calls Tryd.prog 5 #[.string a0, v1, v2] W (Fine W) := by
  obtain ⟨m, hm, hz0⟩ := maxLen_cell hsh
  obtain ⟨i0, hi, hz, hz1, hz2⟩ := info_parts infoString
  obtain ⟨a, len, cap, ss, rest, rfl, hcap, hS, hd⟩ := open_strsAt o1 h1 l1
  obtain ⟨a', len', cap', ss', rest', rfl, hcap', hS', hd'⟩ := open_strsAt o2 h2 l2
  have hn : a = none → len = 0 ∧ cap = 0 := fun e => by subst e; exact open_strsAt_nil h1
  have hn' : a' = none → len' = 0 ∧ cap' = 0 := fun e => by subst e; exact open_strsAt_nil h2
  have hbk : Rows.uptoBulkAll [DataW.lit (H := H) (.string a0.data.toList), d1, d2] ≤ 1048576 := of_decide_eq_true hk
  simp only [Rows.uptoBulkAll] at hbk
  have hj : ∀ k, (pathJoin (bls (ss.take k))).length ≤ 1050000 := fun k => by
    have h3 := bulk_join hd k
    omega
  have hj' : ∀ k, (pathJoin (bls (ss'.take k))).length ≤ 1050000 := fun k => by
    have h3 := bulk_join hd' k
    omega
  clear hbk
  clear hsz hsh o1 h1 l1 o2 h2 l2 hk hd hd'
  obtain ⟨l, hl⟩ : ∃ l, l = a0.data.toList.take 300 := ⟨_, rfl⟩
  have hll : l.length ≤ 300 := by rw [hl]; simp; omega
  have HH := head_any a0 300 W (by decide) w0 (by decide)
  rw [show (300 : Int).toNat = 300 from rfl, ← hl] at HH
  have HM := Lib.hid hm
  clear hm hl
  go_enter Tryd.func5, Tryd.ntmps5
  go_upto_if 14 with (go_at_call 7; refine HH.mono ?_; rintro e w1 ⟨rfl, rfl⟩)
  go_cut [1] (fun v wx => ListAt W v wx)
  case first =>
    by_cases h20 : (20 : Int) < (len : Int)
    · have e1 : 20 ≤ cap := by omega
      cases a with
      | none => exact absurd (hn rfl).1 (by omega)
      | some ad =>
        go_wp2_with fail
        go_meet
        exact ⟨some ad, 20, cap, ss.take 20, rfl, by omega, by omega, hS.take 20 (by omega), by simp, hj 20, rfl⟩
    · go_wp2_with fail
      go_meet
      exact ⟨a, len, cap, ss, rfl, hcap, by omega, hS, hn, by have := hj len; rwa [List.take_of_length_le (by have := hS.length; omega)] at this, rfl⟩
  case rest =>
    clear hS hn hj hcap
    obtain ⟨a, n, c, ss, rfl, hcap, h20, hS, hn, hj, rfl⟩ := hcut
    go_upto_if 19 with fail
    go_cut [2] (fun v wx => ListAt W v wx)
    case first =>
      by_cases h20' : (20 : Int) < (len' : Int)
      · have e1 : 20 ≤ cap' := by omega
        cases a' with
        | none => exact absurd (hn' rfl).1 (by omega)
        | some ad =>
          go_wp2_with fail
          go_meet
          exact ⟨some ad, 20, cap', ss'.take 20, rfl, by omega, by omega, hS'.take 20 (by omega), by simp, hj' 20, rfl⟩
      · go_wp2_with fail
        go_meet
        exact ⟨a', len', cap', ss', rfl, hcap', by omega, hS', hn', by have := hj' len'; rwa [List.take_of_length_le (by have := hS'.length; omega)] at this, rfl⟩
    case rest =>
      clear hS' hn' hj' hcap'
      obtain ⟨a', n', c', ss', rfl, hcap', h20', hS', hn', hj', rfl⟩ := hcut
      have hls := hS.length
      have hls' := hS'.length
      have hA : (a = none ∧ n = 0 ∧ c = 0 ∧ ss = []) ∨ (∃ ad, a = some ad ∧ n = 0 ∧ ss = []) ∨ (∃ ad j, a = some ad ∧ n = j + 1) := by
        cases a with
        | none =>
          obtain ⟨h1, h2⟩ := hn rfl
          exact Or.inl ⟨rfl, h1, h2, by rw [h1] at hls; simpa using hls⟩
        | some ad =>
          cases n with
          | zero => exact Or.inr (Or.inl ⟨ad, rfl, rfl, by simpa using hls⟩)
          | succ j => exact Or.inr (Or.inr ⟨ad, j, rfl, rfl⟩)
      have hA' : (a' = none ∧ n' = 0 ∧ c' = 0 ∧ ss' = []) ∨ (∃ ad, a' = some ad) := by
        cases a' with
        | none =>
          obtain ⟨h1, h2⟩ := hn' rfl
          exact Or.inl ⟨rfl, h1, h2, by rw [h1] at hls'; simpa using hls'⟩
        | some ad => exact Or.inr ⟨ad, rfl⟩
      clear hn hn'
      have HS1 := same7_any (bmk l)
      have hbl : (bmk l).size < 4294967281 := by rw [bmk_size]; omega
      rcases hA with ⟨rfl, rfl, rfl, rfl⟩ | ⟨ad, rfl, rfl, rfl⟩ | ⟨ad, j, rfl, rfl⟩ <;> rcases hA' with ⟨rfl, rfl, rfl, rfl⟩ | ⟨ad', rfl⟩
      · go_wp2_with fail
        refine (parent_any _ _ _ [] _ hS (by decide) hcap).mono ?_
        rintro e w1 (⟨_, rfl, rfl⟩ | ⟨g1, c1, x1, hx1, _⟩)
        · have hb1 := Below.refl W.heap.size W
          have hbz1 := hb1.size
          go_wp2_with fail
          refine (HS1 _ hbl m ((hb1.cell (p := ⟨0, 0, none⟩) hz0).trans HM.out)).mono ?_
          rintro e w2 ⟨rfl, hB2⟩
          have hb2 := hb1.trans (hB2.mono hbz1)
          have hbz2 := hb2.size
          clear hb1 hB2
          have hjj : (Lib.join (bls []) [47]).length ≤ 140737488355327 := by simp only [pathJoin, List.length_cons] at hj; omega
          go_wp2_with fail
          refine (join_any _ _ _ [] _ (hS.below hb2 (Nat.le_refl _)) hcap hjj (by omega)).mono ?_
          rintro e w3 ⟨rfl, hB3⟩
          have hb3 := hb2.trans (hB3.mono hbz2)
          have hbz3 := hb3.size
          clear hb2 hB3
          go_wp2_with fail
          refine (rjoin_any _ _ _ [] _ (hS.below hb3 (Nat.le_refl _)) (by omega)).mono ?_
          rintro e w4 ⟨rfl, hB4⟩
          have hb4 := hb3.trans (hB4.mono hbz3)
          have hbz4 := hb4.size
          clear hb3 hB4
          go_wp2_with fail
          refine (rjoin_any _ _ _ [] _ (hS.below hb4 (Nat.le_refl _)) (by omega)).mono ?_
          rintro e w5 ⟨rfl, hB5⟩
          have hb5 := hb4.trans (hB5.mono hbz4)
          have hbz5 := hb5.size
          clear hb4 hB5
          go_wp2_with fail
          refine (same7_any (bmk (pathJoin (bls []))) _ (by rw [bmk_size]; omega) m ((hb5.cell (p := ⟨0, 0, none⟩) hz0).trans HM.out)).mono ?_
          rintro e w6 ⟨rfl, hB6⟩
          have hb6 := hb5.trans (hB6.mono hbz5)
          have hbz6 := hb6.size
          clear hb5 hB6
          go_wp2_with fail
          refine (within_any _ _ _ _ _ _ [] [] _ (hS.below hb6 (Nat.le_refl _)) (hS'.below hb6 (Nat.le_refl _)) hcap).mono ?_
          rintro e w7 ⟨rfl, hB7⟩
          have hb7 := hb6.trans (hB7.mono hbz6)
          have hbz7 := hb7.size
          clear hb6 hB7
          go_wp2_with fail
          refine (rwithin_any _ _ _ _ _ _ [] [] _ (hS.below hb7 (Nat.le_refl _)) (hS'.below hb7 (Nat.le_refl _))).mono ?_
          rintro e w8 ⟨rfl, hB8⟩
          have hb8 := hb7.trans (hB8.mono hbz7)
          have hbz8 := hb8.size
          clear hb7 hB8
          have heq : (withinB [] [] == withinB [] []) = true := by simp
          have hown1 : (w8.alloc (.cells #[] 9)).ownsRow w8.heap.size 9 1 (.slice (some ⟨w8.heap.size, 0, none⟩) 0 0) 0 [] := World.ownsRow_lit w8 #[] 0 (Nat.le_refl _) (by decide) rfl
          have hbA := hb8.alloc hbz8 (.cells #[] 9)
          go_wp2_with fail
          refine (within_any (S := fun _ => False) (S' := fun _ => False) _ _ _ _ _ _ [] [] _ ⟨RowAt.nil _ _ _, by simp⟩ ⟨RowAt.nil _ _ _, by simp⟩ (Nat.le_refl _)).mono ?_
          rintro e w9 ⟨rfl, hB9⟩
          rw [show withinB [] [] = true by simp [withinB]]
          have hb9 := hbA.trans (hB9.mono (by simp; omega))
          have hbz9 := hb9.size
          go_wp2_with fail
          refine (known7_any _ m ((hb9.cell (p := ⟨0, 0, none⟩) hz0).trans HM.out) (by omega)).mono ?_
          rintro e wL ⟨rfl, hBL⟩
          go_wp2_with fail
          go_ret
          exact ⟨rfl, hb9.trans (hBL.mono hbz9)⟩
        · cases hx1
      · go_wp2_with fail
        refine (parent_any _ _ _ [] _ hS (by decide) hcap).mono ?_
        rintro e w1 (⟨_, rfl, rfl⟩ | ⟨g1, c1, x1, hx1, _⟩)
        · have hb1 := Below.refl W.heap.size W
          have hbz1 := hb1.size
          go_wp2_with fail
          refine (HS1 _ hbl m ((hb1.cell (p := ⟨0, 0, none⟩) hz0).trans HM.out)).mono ?_
          rintro e w2 ⟨rfl, hB2⟩
          have hb2 := hb1.trans (hB2.mono hbz1)
          have hbz2 := hb2.size
          clear hb1 hB2
          have hjj : (Lib.join (bls []) [47]).length ≤ 140737488355327 := by simp only [pathJoin, List.length_cons] at hj; omega
          go_wp2_with fail
          refine (join_any _ _ _ [] _ (hS.below hb2 (Nat.le_refl _)) hcap hjj (by omega)).mono ?_
          rintro e w3 ⟨rfl, hB3⟩
          have hb3 := hb2.trans (hB3.mono hbz2)
          have hbz3 := hb3.size
          clear hb2 hB3
          go_wp2_with fail
          refine (rjoin_any _ _ _ [] _ (hS.below hb3 (Nat.le_refl _)) (by omega)).mono ?_
          rintro e w4 ⟨rfl, hB4⟩
          have hb4 := hb3.trans (hB4.mono hbz3)
          have hbz4 := hb4.size
          clear hb3 hB4
          go_wp2_with fail
          refine (rjoin_any _ _ _ [] _ (hS.below hb4 (Nat.le_refl _)) (by omega)).mono ?_
          rintro e w5 ⟨rfl, hB5⟩
          have hb5 := hb4.trans (hB5.mono hbz4)
          have hbz5 := hb5.size
          clear hb4 hB5
          go_wp2_with fail
          refine (same7_any (bmk (pathJoin (bls []))) _ (by rw [bmk_size]; omega) m ((hb5.cell (p := ⟨0, 0, none⟩) hz0).trans HM.out)).mono ?_
          rintro e w6 ⟨rfl, hB6⟩
          have hb6 := hb5.trans (hB6.mono hbz5)
          have hbz6 := hb6.size
          clear hb5 hB6
          go_wp2_with fail
          refine (within_any _ _ _ _ _ _ [] ss' _ (hS.below hb6 (Nat.le_refl _)) (hS'.below hb6 (Nat.le_refl _)) hcap).mono ?_
          rintro e w7 ⟨rfl, hB7⟩
          have hb7 := hb6.trans (hB7.mono hbz6)
          have hbz7 := hb7.size
          clear hb6 hB7
          go_wp2_with fail
          refine (rwithin_any _ _ _ _ _ _ [] ss' _ (hS.below hb7 (Nat.le_refl _)) (hS'.below hb7 (Nat.le_refl _))).mono ?_
          rintro e w8 ⟨rfl, hB8⟩
          have hb8 := hb7.trans (hB8.mono hbz7)
          have hbz8 := hb8.size
          clear hb7 hB8
          have heq : (withinB [] ss' == withinB [] ss') = true := by simp
          have hown1 : (w8.alloc (.cells #[] 9)).ownsRow w8.heap.size 9 1 (.slice (some ⟨w8.heap.size, 0, none⟩) 0 0) 0 [] := World.ownsRow_lit w8 #[] 0 (Nat.le_refl _) (by decide) rfl
          have hbA := hb8.alloc hbz8 (.cells #[] 9)
          have hlj' : (ss'.map Value.string).length = n' * 1 := by rw [List.length_map, hls']; omega
          go_wp2_with (first
            | (at_builtin; have hzB := hbA.size; have hlt2 := (hown1).lt; refine append_g rfl _ _ 22 rfl w8.heap.size 9 i0 (.string ByteArray.empty) 1 16 Tryd.underlying22 hi hz hz1 hz2 rfl (by decide) _ _ _ rfl hown1 ad' n' c' (ss'.map Value.string) rfl hlj' (strs_newsA (hS'.below hbA (Nat.le_refl _))) (one_strs _) (by unfold maxLen; omega) (by omega) (by first | omega | (simp; done) | (simp; omega)) ?_; intro v3 w10 hown3 hgr3 _; have hbC := hbA.grown hgr3 (by first | omega | (simp; done) | (simp; omega)) (fun k hk => Nat.le_trans hbz8 (hlt2 k hk).1)))
          have hownR : w10.ownsRow w8.heap.size 9 1 v3 (n') ((ss').map Value.string) := by
            have h := hown3
            simpa using h
          have hshR : ∀ s ∈ ss', s.size ≤ maxLen := hS'.short
          obtain ⟨aR, cR, rfl, hSR⟩ := own_strs hownR hshR
          have hcR := own_cap hownR
          have hzR := hbC.size
          refine (within_any _ _ _ _ _ _ (ss') [] _ hSR (hS.below hbC (Nat.le_refl _)) hcR).mono ?_
          rintro e w11 ⟨rfl, hB9⟩
          rw [show withinB (ss') [] = true by simp [withinB]]
          have hb9 := hbC.trans (hB9.mono hzR)
          have hbz9 := hb9.size
          go_wp2_with fail
          refine (known7_any _ m ((hb9.cell (p := ⟨0, 0, none⟩) hz0).trans HM.out) (by omega)).mono ?_
          rintro e wL ⟨rfl, hBL⟩
          go_wp2_with fail
          go_ret
          exact ⟨rfl, hb9.trans (hBL.mono hbz9)⟩
        · cases hx1
      · go_wp2_with fail
        refine (parent_any _ _ _ [] _ hS (by decide) hcap).mono ?_
        rintro e w1 (⟨_, rfl, rfl⟩ | ⟨g1, c1, x1, hx1, _⟩)
        · have hb1 := Below.refl W.heap.size W
          have hbz1 := hb1.size
          go_wp2_with fail
          refine (HS1 _ hbl m ((hb1.cell (p := ⟨0, 0, none⟩) hz0).trans HM.out)).mono ?_
          rintro e w2 ⟨rfl, hB2⟩
          have hb2 := hb1.trans (hB2.mono hbz1)
          have hbz2 := hb2.size
          clear hb1 hB2
          have hjj : (Lib.join (bls []) [47]).length ≤ 140737488355327 := by simp only [pathJoin, List.length_cons] at hj; omega
          go_wp2_with fail
          refine (join_any _ _ _ [] _ (hS.below hb2 (Nat.le_refl _)) hcap hjj (by omega)).mono ?_
          rintro e w3 ⟨rfl, hB3⟩
          have hb3 := hb2.trans (hB3.mono hbz2)
          have hbz3 := hb3.size
          clear hb2 hB3
          go_wp2_with fail
          refine (rjoin_any _ _ _ [] _ (hS.below hb3 (Nat.le_refl _)) (by omega)).mono ?_
          rintro e w4 ⟨rfl, hB4⟩
          have hb4 := hb3.trans (hB4.mono hbz3)
          have hbz4 := hb4.size
          clear hb3 hB4
          go_wp2_with fail
          refine (rjoin_any _ _ _ [] _ (hS.below hb4 (Nat.le_refl _)) (by omega)).mono ?_
          rintro e w5 ⟨rfl, hB5⟩
          have hb5 := hb4.trans (hB5.mono hbz4)
          have hbz5 := hb5.size
          clear hb4 hB5
          go_wp2_with fail
          refine (same7_any (bmk (pathJoin (bls []))) _ (by rw [bmk_size]; omega) m ((hb5.cell (p := ⟨0, 0, none⟩) hz0).trans HM.out)).mono ?_
          rintro e w6 ⟨rfl, hB6⟩
          have hb6 := hb5.trans (hB6.mono hbz5)
          have hbz6 := hb6.size
          clear hb5 hB6
          go_wp2_with fail
          refine (within_any _ _ _ _ _ _ [] [] _ (hS.below hb6 (Nat.le_refl _)) (hS'.below hb6 (Nat.le_refl _)) hcap).mono ?_
          rintro e w7 ⟨rfl, hB7⟩
          have hb7 := hb6.trans (hB7.mono hbz6)
          have hbz7 := hb7.size
          clear hb6 hB7
          go_wp2_with fail
          refine (rwithin_any _ _ _ _ _ _ [] [] _ (hS.below hb7 (Nat.le_refl _)) (hS'.below hb7 (Nat.le_refl _))).mono ?_
          rintro e w8 ⟨rfl, hB8⟩
          have hb8 := hb7.trans (hB8.mono hbz7)
          have hbz8 := hb8.size
          clear hb7 hB8
          have heq : (withinB [] [] == withinB [] []) = true := by simp
          have hown1 : (w8.alloc (.cells #[] 9)).ownsRow w8.heap.size 9 1 (.slice (some ⟨w8.heap.size, 0, none⟩) 0 0) 0 [] := World.ownsRow_lit w8 #[] 0 (Nat.le_refl _) (by decide) rfl
          have hbA := hb8.alloc hbz8 (.cells #[] 9)
          go_wp2_with fail
          refine (within_any (S := fun _ => False) (S' := fun _ => False) _ _ _ _ _ _ [] [] _ ⟨RowAt.nil _ _ _, by simp⟩ ⟨RowAt.nil _ _ _, by simp⟩ (Nat.le_refl _)).mono ?_
          rintro e w9 ⟨rfl, hB9⟩
          rw [show withinB [] [] = true by simp [withinB]]
          have hb9 := hbA.trans (hB9.mono (by simp; omega))
          have hbz9 := hb9.size
          go_wp2_with fail
          refine (known7_any _ m ((hb9.cell (p := ⟨0, 0, none⟩) hz0).trans HM.out) (by omega)).mono ?_
          rintro e wL ⟨rfl, hBL⟩
          go_wp2_with fail
          go_ret
          exact ⟨rfl, hb9.trans (hBL.mono hbz9)⟩
        · cases hx1
      · go_wp2_with fail
        refine (parent_any _ _ _ [] _ hS (by decide) hcap).mono ?_
        rintro e w1 (⟨_, rfl, rfl⟩ | ⟨g1, c1, x1, hx1, _⟩)
        · have hb1 := Below.refl W.heap.size W
          have hbz1 := hb1.size
          go_wp2_with fail
          refine (HS1 _ hbl m ((hb1.cell (p := ⟨0, 0, none⟩) hz0).trans HM.out)).mono ?_
          rintro e w2 ⟨rfl, hB2⟩
          have hb2 := hb1.trans (hB2.mono hbz1)
          have hbz2 := hb2.size
          clear hb1 hB2
          have hjj : (Lib.join (bls []) [47]).length ≤ 140737488355327 := by simp only [pathJoin, List.length_cons] at hj; omega
          go_wp2_with fail
          refine (join_any _ _ _ [] _ (hS.below hb2 (Nat.le_refl _)) hcap hjj (by omega)).mono ?_
          rintro e w3 ⟨rfl, hB3⟩
          have hb3 := hb2.trans (hB3.mono hbz2)
          have hbz3 := hb3.size
          clear hb2 hB3
          go_wp2_with fail
          refine (rjoin_any _ _ _ [] _ (hS.below hb3 (Nat.le_refl _)) (by omega)).mono ?_
          rintro e w4 ⟨rfl, hB4⟩
          have hb4 := hb3.trans (hB4.mono hbz3)
          have hbz4 := hb4.size
          clear hb3 hB4
          go_wp2_with fail
          refine (rjoin_any _ _ _ [] _ (hS.below hb4 (Nat.le_refl _)) (by omega)).mono ?_
          rintro e w5 ⟨rfl, hB5⟩
          have hb5 := hb4.trans (hB5.mono hbz4)
          have hbz5 := hb5.size
          clear hb4 hB5
          go_wp2_with fail
          refine (same7_any (bmk (pathJoin (bls []))) _ (by rw [bmk_size]; omega) m ((hb5.cell (p := ⟨0, 0, none⟩) hz0).trans HM.out)).mono ?_
          rintro e w6 ⟨rfl, hB6⟩
          have hb6 := hb5.trans (hB6.mono hbz5)
          have hbz6 := hb6.size
          clear hb5 hB6
          go_wp2_with fail
          refine (within_any _ _ _ _ _ _ [] ss' _ (hS.below hb6 (Nat.le_refl _)) (hS'.below hb6 (Nat.le_refl _)) hcap).mono ?_
          rintro e w7 ⟨rfl, hB7⟩
          have hb7 := hb6.trans (hB7.mono hbz6)
          have hbz7 := hb7.size
          clear hb6 hB7
          go_wp2_with fail
          refine (rwithin_any _ _ _ _ _ _ [] ss' _ (hS.below hb7 (Nat.le_refl _)) (hS'.below hb7 (Nat.le_refl _))).mono ?_
          rintro e w8 ⟨rfl, hB8⟩
          have hb8 := hb7.trans (hB8.mono hbz7)
          have hbz8 := hb8.size
          clear hb7 hB8
          have heq : (withinB [] ss' == withinB [] ss') = true := by simp
          have hown1 : (w8.alloc (.cells #[] 9)).ownsRow w8.heap.size 9 1 (.slice (some ⟨w8.heap.size, 0, none⟩) 0 0) 0 [] := World.ownsRow_lit w8 #[] 0 (Nat.le_refl _) (by decide) rfl
          have hbA := hb8.alloc hbz8 (.cells #[] 9)
          have hlj' : (ss'.map Value.string).length = n' * 1 := by rw [List.length_map, hls']; omega
          go_wp2_with (first
            | (at_builtin; have hzB := hbA.size; have hlt2 := (hown1).lt; refine append_g rfl _ _ 22 rfl w8.heap.size 9 i0 (.string ByteArray.empty) 1 16 Tryd.underlying22 hi hz hz1 hz2 rfl (by decide) _ _ _ rfl hown1 ad' n' c' (ss'.map Value.string) rfl hlj' (strs_newsA (hS'.below hbA (Nat.le_refl _))) (one_strs _) (by unfold maxLen; omega) (by omega) (by first | omega | (simp; done) | (simp; omega)) ?_; intro v3 w10 hown3 hgr3 _; have hbC := hbA.grown hgr3 (by first | omega | (simp; done) | (simp; omega)) (fun k hk => Nat.le_trans hbz8 (hlt2 k hk).1)))
          have hownR : w10.ownsRow w8.heap.size 9 1 v3 (n') ((ss').map Value.string) := by
            have h := hown3
            simpa using h
          have hshR : ∀ s ∈ ss', s.size ≤ maxLen := hS'.short
          obtain ⟨aR, cR, rfl, hSR⟩ := own_strs hownR hshR
          have hcR := own_cap hownR
          have hzR := hbC.size
          refine (within_any _ _ _ _ _ _ (ss') [] _ hSR (hS.below hbC (Nat.le_refl _)) hcR).mono ?_
          rintro e w11 ⟨rfl, hB9⟩
          rw [show withinB (ss') [] = true by simp [withinB]]
          have hb9 := hbC.trans (hB9.mono hzR)
          have hbz9 := hb9.size
          go_wp2_with fail
          refine (known7_any _ m ((hb9.cell (p := ⟨0, 0, none⟩) hz0).trans HM.out) (by omega)).mono ?_
          rintro e wL ⟨rfl, hBL⟩
          go_wp2_with fail
          go_ret
          exact ⟨rfl, hb9.trans (hBL.mono hbz9)⟩
        · cases hx1
      · obtain ⟨b, off, x, hao, _, hbW, hx, hxs, hcell⟩ := hS.cell j (by omega)
        simp only [Option.some.injEq] at hao
        subst hao
        have hlast : ss.getLast? = some x := by rw [List.getLast?_eq_getElem?, hls]; exact hx
        have hdrop : ss.dropLast = ss.take j := by rw [List.dropLast_eq_take, hls]; rfl
        have HLS := Lib.hid hlast
        have HDR := Lib.hid hdrop
        have HL := Lib.hid hls
        clear hlast hdrop hx hls
        go_wp2_with fail
        refine (parent_any _ _ _ ss _ hS (by omega) hcap).mono ?_
        rintro e w1 (⟨hnil, _, _⟩ | ⟨g1, c1, x1, hx1, rfl, hc1, hS1, hB1⟩)
        · have := HL.out
          rw [hnil] at this
          cases this
        · obtain rfl : x = x1 := Option.some.inj (HLS.out.symm.trans hx1)
          have ej : ss.length - 1 = j := by rw [HL.out]; rfl
          rw [ej] at hc1 hS1 ⊢
          rw [HDR.out] at hS1
          clear hx1 ej
          have hz1' := hB1.size
          have hcell1 : w1.cell? ⟨b, off + j, none⟩ = some (.string x) := (hB1.cell (p := ⟨b, off + j, none⟩) hbW).trans hcell
          have hTk := (hS.below hB1 (Nat.le_refl _)).take j (by omega)
          have hjc : j ≤ c := by omega
          clear hcell
          go_wp2_with fail
          refine (same_any _ _ _ _ _ _ (ss.take j) (ss.take j) _ hS1 hTk).mono ?_
          rintro e w1' ⟨rfl, hB1'⟩
          rw [show decide (ss.take j = ss.take j) = true by simp]
          have hb1 := hB1.trans (hB1'.mono hz1')
          have hbz1 := hb1.size
          clear hB1 hB1' hTk hS1 hcell1 hz1'
          go_wp2_with fail
          refine (HS1 _ hbl m ((hb1.cell (p := ⟨0, 0, none⟩) hz0).trans HM.out)).mono ?_
          rintro e w2 ⟨rfl, hB2⟩
          have hb2 := hb1.trans (hB2.mono hbz1)
          have hbz2 := hb2.size
          clear hb1 hB2
          have hjj : (Lib.join (bls ss) [47]).length ≤ 140737488355327 := by simp only [pathJoin, List.length_cons] at hj; omega
          go_wp2_with fail
          refine (join_any _ _ _ ss _ (hS.below hb2 (Nat.le_refl _)) hcap hjj (by omega)).mono ?_
          rintro e w3 ⟨rfl, hB3⟩
          have hb3 := hb2.trans (hB3.mono hbz2)
          have hbz3 := hb3.size
          clear hb2 hB3
          go_wp2_with fail
          refine (rjoin_any _ _ _ ss _ (hS.below hb3 (Nat.le_refl _)) (by omega)).mono ?_
          rintro e w4 ⟨rfl, hB4⟩
          have hb4 := hb3.trans (hB4.mono hbz3)
          have hbz4 := hb4.size
          clear hb3 hB4
          go_wp2_with fail
          refine (rjoin_any _ _ _ ss _ (hS.below hb4 (Nat.le_refl _)) (by omega)).mono ?_
          rintro e w5 ⟨rfl, hB5⟩
          have hb5 := hb4.trans (hB5.mono hbz4)
          have hbz5 := hb5.size
          clear hb4 hB5
          go_wp2_with fail
          refine (same7_any (bmk (pathJoin (bls ss))) _ (by rw [bmk_size]; omega) m ((hb5.cell (p := ⟨0, 0, none⟩) hz0).trans HM.out)).mono ?_
          rintro e w6 ⟨rfl, hB6⟩
          have hb6 := hb5.trans (hB6.mono hbz5)
          have hbz6 := hb6.size
          clear hb5 hB6
          go_wp2_with fail
          refine (within_any _ _ _ _ _ _ ss [] _ (hS.below hb6 (Nat.le_refl _)) (hS'.below hb6 (Nat.le_refl _)) hcap).mono ?_
          rintro e w7 ⟨rfl, hB7⟩
          have hb7 := hb6.trans (hB7.mono hbz6)
          have hbz7 := hb7.size
          clear hb6 hB7
          go_wp2_with fail
          refine (rwithin_any _ _ _ _ _ _ ss [] _ (hS.below hb7 (Nat.le_refl _)) (hS'.below hb7 (Nat.le_refl _))).mono ?_
          rintro e w8 ⟨rfl, hB8⟩
          have hb8 := hb7.trans (hB8.mono hbz7)
          have hbz8 := hb8.size
          clear hb7 hB8
          have heq : (withinB ss [] == withinB ss []) = true := by simp
          have hown1 : (w8.alloc (.cells #[] 9)).ownsRow w8.heap.size 9 1 (.slice (some ⟨w8.heap.size, 0, none⟩) 0 0) 0 [] := World.ownsRow_lit w8 #[] 0 (Nat.le_refl _) (by decide) rfl
          have hbA := hb8.alloc hbz8 (.cells #[] 9)
          have tok1 : True := trivial
          have hlj : (ss.map Value.string).length = (j + 1) * 1 := by rw [List.length_map, HL.out]; omega
          go_wp2_with (first
            | (at_builtin; have _t := tok1; refine append_g rfl _ _ 22 rfl w8.heap.size 9 i0 (.string ByteArray.empty) 1 16 Tryd.underlying22 hi hz hz1 hz2 rfl (by decide) _ _ _ rfl hown1 ⟨b, off, none⟩ (j + 1) c (ss.map Value.string) rfl hlj (strs_newsA (hS.below hbA (Nat.le_refl _))) (one_strs _) (by unfold maxLen; omega) (by omega) (by first | omega | (simp; done) | (simp; omega)) ?_; intro v2 w9 hown2 hgr2 _; clear tok1; have hbB := hbA.grown hgr2 (by first | omega | (simp; done) | (simp; omega)) (fun k hk => by cases hk; omega))
            | (at_builtin; refine append_g_none rfl _ _ 22 rfl w8.heap.size 9 i0 1 Tryd.underlying22 hi _ _ _ rfl hown2 rfl ?_))
          have hownR : w9.ownsRow w8.heap.size 9 1 v2 ((j + 1)) ((ss).map Value.string) := by
            have h := hown2
            simpa using h
          have hshR : ∀ s ∈ ss, s.size ≤ maxLen := hS.short
          obtain ⟨aR, cR, rfl, hSR⟩ := own_strs hownR hshR
          have hcR := own_cap hownR
          have hzR := hbB.size
          refine (within_any _ _ _ _ _ _ (ss) ss _ hSR (hS.below hbB (Nat.le_refl _)) hcR).mono ?_
          rintro e w11 ⟨rfl, hB9⟩
          rw [show withinB (ss) ss = true by simp [withinB]]
          have hb9 := hbB.trans (hB9.mono hzR)
          have hbz9 := hb9.size
          go_wp2_with fail
          refine (known7_any _ m ((hb9.cell (p := ⟨0, 0, none⟩) hz0).trans HM.out) (by omega)).mono ?_
          rintro e wL ⟨rfl, hBL⟩
          go_wp2_with fail
          go_ret
          exact ⟨rfl, hb9.trans (hBL.mono hbz9)⟩
      · obtain ⟨b, off, x, hao, _, hbW, hx, hxs, hcell⟩ := hS.cell j (by omega)
        simp only [Option.some.injEq] at hao
        subst hao
        have hlast : ss.getLast? = some x := by rw [List.getLast?_eq_getElem?, hls]; exact hx
        have hdrop : ss.dropLast = ss.take j := by rw [List.dropLast_eq_take, hls]; rfl
        have HLS := Lib.hid hlast
        have HDR := Lib.hid hdrop
        have HL := Lib.hid hls
        clear hlast hdrop hx hls
        go_wp2_with fail
        refine (parent_any _ _ _ ss _ hS (by omega) hcap).mono ?_
        rintro e w1 (⟨hnil, _, _⟩ | ⟨g1, c1, x1, hx1, rfl, hc1, hS1, hB1⟩)
        · have := HL.out
          rw [hnil] at this
          cases this
        · obtain rfl : x = x1 := Option.some.inj (HLS.out.symm.trans hx1)
          have ej : ss.length - 1 = j := by rw [HL.out]; rfl
          rw [ej] at hc1 hS1 ⊢
          rw [HDR.out] at hS1
          clear hx1 ej
          have hz1' := hB1.size
          have hcell1 : w1.cell? ⟨b, off + j, none⟩ = some (.string x) := (hB1.cell (p := ⟨b, off + j, none⟩) hbW).trans hcell
          have hTk := (hS.below hB1 (Nat.le_refl _)).take j (by omega)
          have hjc : j ≤ c := by omega
          clear hcell
          go_wp2_with fail
          refine (same_any _ _ _ _ _ _ (ss.take j) (ss.take j) _ hS1 hTk).mono ?_
          rintro e w1' ⟨rfl, hB1'⟩
          rw [show decide (ss.take j = ss.take j) = true by simp]
          have hb1 := hB1.trans (hB1'.mono hz1')
          have hbz1 := hb1.size
          clear hB1 hB1' hTk hS1 hcell1 hz1'
          go_wp2_with fail
          refine (HS1 _ hbl m ((hb1.cell (p := ⟨0, 0, none⟩) hz0).trans HM.out)).mono ?_
          rintro e w2 ⟨rfl, hB2⟩
          have hb2 := hb1.trans (hB2.mono hbz1)
          have hbz2 := hb2.size
          clear hb1 hB2
          have hjj : (Lib.join (bls ss) [47]).length ≤ 140737488355327 := by simp only [pathJoin, List.length_cons] at hj; omega
          go_wp2_with fail
          refine (join_any _ _ _ ss _ (hS.below hb2 (Nat.le_refl _)) hcap hjj (by omega)).mono ?_
          rintro e w3 ⟨rfl, hB3⟩
          have hb3 := hb2.trans (hB3.mono hbz2)
          have hbz3 := hb3.size
          clear hb2 hB3
          go_wp2_with fail
          refine (rjoin_any _ _ _ ss _ (hS.below hb3 (Nat.le_refl _)) (by omega)).mono ?_
          rintro e w4 ⟨rfl, hB4⟩
          have hb4 := hb3.trans (hB4.mono hbz3)
          have hbz4 := hb4.size
          clear hb3 hB4
          go_wp2_with fail
          refine (rjoin_any _ _ _ ss _ (hS.below hb4 (Nat.le_refl _)) (by omega)).mono ?_
          rintro e w5 ⟨rfl, hB5⟩
          have hb5 := hb4.trans (hB5.mono hbz4)
          have hbz5 := hb5.size
          clear hb4 hB5
          go_wp2_with fail
          refine (same7_any (bmk (pathJoin (bls ss))) _ (by rw [bmk_size]; omega) m ((hb5.cell (p := ⟨0, 0, none⟩) hz0).trans HM.out)).mono ?_
          rintro e w6 ⟨rfl, hB6⟩
          have hb6 := hb5.trans (hB6.mono hbz5)
          have hbz6 := hb6.size
          clear hb5 hB6
          go_wp2_with fail
          refine (within_any _ _ _ _ _ _ ss ss' _ (hS.below hb6 (Nat.le_refl _)) (hS'.below hb6 (Nat.le_refl _)) hcap).mono ?_
          rintro e w7 ⟨rfl, hB7⟩
          have hb7 := hb6.trans (hB7.mono hbz6)
          have hbz7 := hb7.size
          clear hb6 hB7
          go_wp2_with fail
          refine (rwithin_any _ _ _ _ _ _ ss ss' _ (hS.below hb7 (Nat.le_refl _)) (hS'.below hb7 (Nat.le_refl _))).mono ?_
          rintro e w8 ⟨rfl, hB8⟩
          have hb8 := hb7.trans (hB8.mono hbz7)
          have hbz8 := hb8.size
          clear hb7 hB8
          have heq : (withinB ss ss' == withinB ss ss') = true := by simp
          have hown1 : (w8.alloc (.cells #[] 9)).ownsRow w8.heap.size 9 1 (.slice (some ⟨w8.heap.size, 0, none⟩) 0 0) 0 [] := World.ownsRow_lit w8 #[] 0 (Nat.le_refl _) (by decide) rfl
          have hbA := hb8.alloc hbz8 (.cells #[] 9)
          have tok1 : True := trivial
          have hlj : (ss.map Value.string).length = (j + 1) * 1 := by rw [List.length_map, HL.out]; omega
          have hlj' : (ss'.map Value.string).length = n' * 1 := by rw [List.length_map, hls']; omega
          go_wp2_with (first
            | (at_builtin; have _t := tok1; refine append_g rfl _ _ 22 rfl w8.heap.size 9 i0 (.string ByteArray.empty) 1 16 Tryd.underlying22 hi hz hz1 hz2 rfl (by decide) _ _ _ rfl hown1 ⟨b, off, none⟩ (j + 1) c (ss.map Value.string) rfl hlj (strs_newsA (hS.below hbA (Nat.le_refl _))) (one_strs _) (by unfold maxLen; omega) (by omega) (by first | omega | (simp; done) | (simp; omega)) ?_; intro v2 w9 hown2 hgr2 _; clear tok1; have hbB := hbA.grown hgr2 (by first | omega | (simp; done) | (simp; omega)) (fun k hk => by cases hk; omega))
            | (at_builtin; have hzB := hbB.size; have hlt2 := (hown2).lt; refine append_g rfl _ _ 22 rfl w8.heap.size 9 i0 (.string ByteArray.empty) 1 16 Tryd.underlying22 hi hz hz1 hz2 rfl (by decide) _ _ _ rfl hown2 ad' n' c' (ss'.map Value.string) rfl hlj' (strs_newsA (hS'.below hbB (Nat.le_refl _))) (one_strs _) (by unfold maxLen; omega) (by omega) (by have h9 := hgr2.size; simp at h9; omega) ?_; intro v3 w10 hown3 hgr3 _; have hbC := hbB.grown hgr3 (by have h9 := hgr2.size; simp at h9; omega) (fun k hk => Nat.le_trans hbz8 (hlt2 k hk).1)))
          have hownR : w10.ownsRow w8.heap.size 9 1 v3 ((j + 1) + n') ((ss ++ ss').map Value.string) := by
            have h := hown3
            simpa using h
          have hshR : ∀ s ∈ ss ++ ss', s.size ≤ maxLen := fun s hs => (List.mem_append.1 hs).elim (hS.short s) (hS'.short s)
          obtain ⟨aR, cR, rfl, hSR⟩ := own_strs hownR hshR
          have hcR := own_cap hownR
          have hzR := hbC.size
          refine (within_any _ _ _ _ _ _ (ss ++ ss') ss _ hSR (hS.below hbC (Nat.le_refl _)) hcR).mono ?_
          rintro e w11 ⟨rfl, hB9⟩
          rw [show withinB (ss ++ ss') ss = true by simp [withinB]]
          have hb9 := hbC.trans (hB9.mono hzR)
          have hbz9 := hb9.size
          go_wp2_with fail
          refine (known7_any _ m ((hb9.cell (p := ⟨0, 0, none⟩) hz0).trans HM.out) (by omega)).mono ?_
          rintro e wL ⟨rfl, hBL⟩
          go_wp2_with fail
          go_ret
          exact ⟨rfl, hb9.trans (hBL.mono hbz9)⟩
end Go.Proofs.YtdgmndahfbmgfaaDoor.pathTells
