/- slices.Concat of rows of bytes. -/
import Derived.Test.YtbapdoicejakhaaAppend
import Derived.Test.YtbapdoicejakhaaGrowLay
namespace Go.Proofs.Ytbapdoicejakhaa
open Go.ChangeShapes Go.WideShapes Go.ChangeAt Go.RowKit
set_option linter.unusedVariables false
set_option linter.unusedSimpArgs false

theorem grow_nil (n : Nat) (w : World) (hn : n ≤ 1000000000) :
    Calls Try.prog 31 #[.slice none 0 0, .int .i64 n] w fun e w' => ∃ v, e = .returned v ∧ w'.ownsRow w.heap.size 5 1 v 0 [] ∧ Below w.heap.size w w' := by
  obtain ⟨i0, hi, hz0, hz1, hz2⟩ := info_parts Try.info8
  by_cases h0 : n = 0
  · subst h0
    refine (Any8.slices_Grow_room Try.growL none 0 0 0 w (by omega) (by omega) (by omega) (by omega)).mono ?_
    rintro e w' ⟨rfl, rfl⟩
    exact ⟨_, rfl, ⟨rfl, .inl ⟨rfl, rfl⟩⟩, Below.refl _ _⟩
  · refine (Any8.slices_Grow_grow Try.growL i0 (.int .u8 0) hi hz0 (by rw [hz1]; omega) none 0 0 n [] w (by omega) (by omega) (by rw [hz2]; omega) (by omega) (by simp) (fun _ => rfl) (fun a h => by cases h)).mono ?_
    rintro e w' ⟨rfl, rfl⟩
    have h1 := grownCap_ge w (0 + n) 0 (Try.growL_ren.t 25)
    have h2 := grownCap_le_maxLen w (0 + n) 0 (Try.growL_ren.t 25) (by unfold maxLen; omega)
    refine ⟨_, rfl, ⟨rfl, .inr ⟨w.heap.size, _, _, rfl, Nat.le_refl _, (MapKept.heap_alloc w.drew _).1, Nat.zero_le _, h2, ?_, rfl⟩⟩, ((Below.refl _ _).drew).alloc (Nat.le_refl _) _⟩
    have e1 : (Value.cells (.int .u8 0)).size = 1 := rfl
    simp only [Array.size_append, size_zeroCells, List.size_toArray, List.length_nil, e1]
    omega

theorem own_form2 {w : World} {base : Nat} {e : TypeId} {size : Nat} {v : Value} {n : Nat} {xs : List Value} (h : w.ownsRow base e size v n xs) : ∃ a c, v = .slice a n c ∧ n ≤ c ∧ c ≤ maxLen := by
  rcases h.2 with ⟨rfl, rfl⟩ | ⟨g, cap, cur, rfl, _, _, h, h', _⟩
  · exact ⟨_, _, rfl, Nat.le_refl _, Nat.zero_le _⟩
  · exact ⟨_, _, rfl, h, h'⟩
theorem flat_take (pss : List (List UInt8)) (k : Nat) (bs : List UInt8) (h : pss[k]? = some bs) : (pss.take (k + 1)).flatten = (pss.take k).flatten ++ bs := by
  obtain ⟨hk, e⟩ := List.getElem?_eq_some_iff.1 h
  rw [List.take_succ_eq_append_getElem hk, List.flatten_append, e]
  simp
theorem flat_le (pss : List (List UInt8)) (k : Nat) : (pss.take k).flatten.length ≤ pss.flatten.length := by
  conv => rhs; rw [← List.take_append_drop k pss, List.flatten_append]
  simp
def flatTo (pss : List (List UInt8)) (k : Nat) : List UInt8 := (pss.take k).flatten
def flatN (pss : List (List UInt8)) (k : Nat) : Nat := (flatTo pss k).length
set_option maxRecDepth 100000 in
set_option maxHeartbeats 4000000 in
theorem concat_any {S : Nat → Prop} (B n : Nat) (pss : List (List UInt8)) (w : World) (hn : n = pss.length) (hn2 : n ≤ 1000) (hB : B < w.heap.size) (htot : pss.flatten.length ≤ 1000000000)
    (hc : ∀ k, k < n → ∃ a l c bs, w.cell? ⟨B, k, none⟩ = some (.slice a l c) ∧ RowAt S w a l (bs.map bv) ∧ pss[k]? = some bs) :
    Calls Try.prog 21 #[.slice (some ⟨B, 0, none⟩) n n] w fun e w' => ∃ a c, e = .returned (.slice a pss.flatten.length c) ∧ (pss.flatten.length ≤ c ∧ c ≤ maxLen) ∧ RowAt (fun x => w.heap.size ≤ x ∧ x < w'.heap.size) w' a pss.flatten.length (pss.flatten.map bv) ∧ Below w.heap.size w w' := by
  obtain ⟨i0, hi, hz0, hz1, hz2⟩ := info_parts Try.info8
  have HN := Lib.hid hn
  have HC := Lib.hid hc
  have hle : ∀ k, flatN pss k ≤ pss.flatten.length := fun k => flat_le pss k
  obtain ⟨N, hN⟩ : ∃ N, N = pss.flatten.length := ⟨_, rfl⟩
  obtain ⟨fl, hfl0⟩ : ∃ fl, fl = pss.flatten := ⟨_, rfl⟩
  rw [← hN] at htot hle ⊢
  rw [← hfl0]
  have HNN := Lib.hid hN
  have HFF := Lib.hid hfl0
  clear hN hfl0
  have HLE := Lib.hid hle
  have hG := grow_nil N w htot
  have HG := Lib.hid hG
  clear hn hc hle hG
  go_enter Try.func21, Try.ntmps21
  go_wp2
  go_loop [3, 11] (fun s i => ∃ k : Nat, k ≤ n ∧ i = .int .i64 k ∧ s = .int .i64 (flatN pss k)) (fun _ i => n - (intOf i).toNat)
  case atStart => exact ⟨0, by omega, rfl, rfl⟩
  case round =>
    obtain ⟨k, hk, rfl, rfl⟩ := hrel
    have hlk := HLE.out k
    by_cases hlt : k < n
    · obtain ⟨a, l, c, bs, hcell, hS, hp⟩ := HC.out k hlt
      have hll : l = bs.length := by have := hS.length; simpa using this.symm
      subst hll
      have HFL : Hid (flatN pss (k + 1) = flatN pss k + bs.length) := by unfold flatN flatTo; rw [flat_take pss k bs hp, List.length_append]; exact rfl
      have hlk2 : flatN pss k + bs.length ≤ 1000000000 := by have := HFL.out; have := HLE.out (k + 1); omega
      clear hp hS
      go_wp2
      go_round
      case rel => exact ⟨k + 1, by omega, by go_num, by rw [HFL.out]; go_num⟩
      case measure => simp [intOf]; omega
    · obtain rfl : n = k := by omega
      have HT : Hid (flatTo pss n = fl ∧ flatN pss n = N) := by
        have : pss.take n = pss := List.take_of_length_le (by have := HN.out; omega)
        unfold flatN flatTo
        rw [this]; exact ⟨HFF.out.symm, HNN.out.symm⟩
      rw [HT.out.2]
      go_wp2_with fail
      (with_reducible refine HG.out.mono ?_)
      rintro e w1 ⟨v, rfl, hown, hb1⟩
      have HB1 := Lib.hid hb1
      have hown0 : w1.ownsRow w.heap.size 5 1 v (flatN pss 0) ((flatTo pss 0).map bv) := hown
      have HO := Lib.hid hown0
      clear hb1 hown hown0 HG
      go_wp2_with fail
      go_loopw [6, 27] (fun v i wr => ∃ k : Nat, k ≤ n ∧ i = .int .i64 k ∧ wr.ownsRow w.heap.size 5 1 v (flatN pss k) ((flatTo pss k).map bv) ∧ Below w.heap.size w wr) (fun _ i _ => n - (intOf i).toNat)
      case atStart => exact ⟨0, by omega, rfl, HO.out, HB1.out⟩
      case round =>
        obtain ⟨k, hk, rfl, hown, hb⟩ := hrel
        have hbs := hb.size
        by_cases hlt : k < n
        · obtain ⟨a, l, c, bs, hcell0, hS, hp⟩ := HC.out k hlt
          have hcell := (hb.cell (p := ⟨B, k, none⟩) hB).trans hcell0
          have HFL : Hid (flatTo pss (k + 1) = flatTo pss k ++ bs ∧ flatN pss (k + 1) = flatN pss k + bs.length) := by unfold flatN flatTo; rw [flat_take pss k bs hp, List.length_append]; exact ⟨rfl, rfl⟩
          have hll : l = bs.length := by have := hS.length; simpa using this.symm
          subst hll
          have hlk2 : flatN pss k + bs.length ≤ 1000000000 := by have := HFL.out.2; have := HLE.out (k + 1); omega
          have HS := Lib.hid (hS.below hb (Nat.le_refl _))
          have HOW := Lib.hid hown
          have HB := Lib.hid hb
          clear hp hS hown hb hcell0 hlk
          go_wp2_with (at_builtin; refine wpList_append_row (by rfl) _ _ 29 (by rfl) w.heap.size 5 i0 (.int .u8 0) 1 Try.underlying29 hi hz0 hz1 hz2 rfl _ _ _ (by rfl) HOW.out a bs.length c (bs.map bv) (by rfl) HS.out (bytes_one bs) (by unfold maxLen; omega) (by omega) hbs ?_; intro A' c' w2 hown2 hgrow2 _ _)
          have HO2 := Lib.hid hown2
          have HG2 := Lib.hid hgrow2
          clear hown2 hgrow2
          go_roundw
          case rel =>
            refine ⟨k + 1, by omega, by go_num, ?_, HB.out.grown HG2.out hbs (own_block_ge HOW.out)⟩
            rw [HFL.out.1, HFL.out.2, List.map_append]
            exact HO2.out
          case measure => simp [intOf]; omega
        · obtain rfl : n = k := by omega
          rw [HT.out.1, HT.out.2] at hown
          obtain ⟨a, c, rfl, hac⟩ := own_form2 hown
          have HOW := Lib.hid hown
          have HB := Lib.hid hb
          clear hown hb
          go_wp2
          go_ret
          exact ⟨a, c, rfl, hac, (RowAt.of_own HOW.out).2, HB.out⟩
end Go.Proofs.Ytbapdoicejakhaa
