/- What chapter 7's reference and the statements' helpers say. -/
import Derived.Test.YtdgmndahfbmgfaaDoorPathD
namespace Go.Proofs.YtdgmndahfbmgfaaDoor
open Go.ChangeShapes Go.WideShapes Go.ChangeAt Go.RowKit
set_option linter.unusedVariables false

theorem idx_byte (s : ByteArray) (k : Nat) (h : k < s.size) : s[k] = s.data.toList.getD k 0 := by
  have h2 : k < s.data.toList.length := by simpa using h
  simp only [List.getD, List.getElem?_eq_getElem h2, Option.getD_some]
  rfl

set_option maxHeartbeats 1000000 in
theorem rgood_any (s : ByteArray) (w : World) (hs : s.size ≤ maxLen) :
    Calls Tryd.prog 23 #[.string s] w fun e w' => e = .returned (.bool (goodL s.data.toList)) ∧ Below w.heap.size w w' := by
  unfold maxLen at hs
  have hb := Below.refl w.heap.size w
  go_enter Tryd.func23, Tryd.ntmps23
  go_wp2
  go_loop [3] (fun i => ∃ k : Nat, k ≤ s.size ∧ i = .int .i64 k ∧ (s.data.toList.take k).all okByte = true) (fun i => s.size - (intOf i).toNat)
  case atStart => exact ⟨0, by omega, rfl, rfl⟩
  case round =>
    obtain ⟨k, hk, rfl, ha⟩ := hrel
    have HA := Lib.hid ha
    clear ha
    by_cases hlt : k < s.size
    · obtain ⟨c, hcc⟩ : ∃ c, c = s.data.toList.getD k 0 := ⟨_, rfl⟩
      have hix := idx_byte s k hlt
      rw [← hcc] at hix
      have hsn := take_all okByte s.data.toList k (by simpa using hlt)
      rw [← hcc] at hsn
      have HS := Lib.hid hsn
      have HG : Hid (okByte c = false → goodL s.data.toList = false) := fun h => by
        have := all_take okByte s.data.toList k (by simpa using hlt)
        rw [← hcc] at this
        simp [goodL, this h]
      clear hsn hcc
      have hbd := byte_bd c
      rcases ok_ways c with ⟨ho, h1, h2⟩ | ⟨ho, h1, h2, h3⟩ | ⟨ho, h1⟩ | ⟨ho, h1⟩ | ⟨ho, h1⟩ | ⟨ho, h1, h2, h3, h4, h5, h6⟩ | ⟨ho, h1, h2, h3, h4, h5, h6⟩ | ⟨ho, h1, h2, h3, h4, h5⟩
      iterate 5
        · have HO := Lib.hid ho
          clear ho HG
          go_wp2
          go_round
          case rel => exact ⟨k + 1, by omega, by go_num, by rw [HS.out, HA.out, HO.out]; rfl⟩
          case measure => simp [intOf]; omega
      iterate 3
        · have HO := Lib.hid ho
          clear ho
          go_wp2
          go_ret
          exact ⟨ret_bool (HG.out HO.out).symm, hb⟩
    · have hk' : k = s.size := by omega
      have HA2 : s.data.toList.all okByte = true := by
        have := HA.out
        rw [hk', List.take_of_length_le (by simp)] at this
        exact this
      have hl : s.data.toList.length = s.size := by simp
      have he := ByteArray.toList_eq s
      have ways : (s.toList = [] ∧ s.toList.isEmpty = true ∧ goodL s.data.toList = false) ∨
          (¬ s.toList = [] ∧ s.toList.isEmpty = false ∧ 16 < s.size ∧ goodL s.data.toList = false) ∨
          (¬ s.toList = [] ∧ s.toList.isEmpty = false ∧ s.size ≤ 16 ∧ s.toList = [46] ∧ (s.toList == [46]) = true ∧ goodL s.data.toList = false) ∨
          (¬ s.toList = [] ∧ s.toList.isEmpty = false ∧ s.size ≤ 16 ∧ ¬ s.toList = [46] ∧ (s.toList == [46]) = false ∧ s.toList = [46, 46] ∧ (s.toList == [46, 46]) = true ∧ goodL s.data.toList = false) ∨
          (¬ s.toList = [] ∧ s.toList.isEmpty = false ∧ s.size ≤ 16 ∧ ¬ s.toList = [46] ∧ (s.toList == [46]) = false ∧ ¬ s.toList = [46, 46] ∧ (s.toList == [46, 46]) = false ∧ goodL s.data.toList = true) := by
        rw [he]
        generalize s.data.toList = l at HA2 hl
        rw [← hl]
        exact good_ways l HA2
      have hz1 : Hid (s.toList = [] → s.size < 1) := fun h => by rw [he] at h; rw [h] at hl; simp at hl; omega
      have hz2 : Hid (¬ s.toList = [] → 1 ≤ s.size) := fun h => by
        rw [he] at h
        have := List.length_pos_iff.2 h
        omega
      clear HA2 hl he HA hk'
      rcases ways with ⟨h1, h2, hg⟩ | ⟨h1, h2, h3, hg⟩ | ⟨h1, h2, h3, h4, h5, hg⟩ | ⟨h1, h2, h3, h4, h5, h6, h7, hg⟩ | ⟨h1, h2, h3, h4, h5, h6, h7, hg⟩
      · have hz := hz1.out h1
        have HG := Lib.hid hg
        clear hg
        go_wp2
        go_ret
        exact ⟨ret_bool HG.out.symm, hb⟩
      all_goals
        have hz := hz2.out h1
        have HG := Lib.hid hg
        clear hg
        go_wp2
        go_ret
        exact ⟨ret_bool HG.out.symm, hb⟩

theorem head_any (s : ByteArray) (n : Int) (w : World) (h0 : 0 ≤ n) (hs : s.size ≤ maxLen) (hn : n ≤ 1000000) :
    Calls Tryd.prog 7 #[.string s, .int .i64 n] w fun e w' => e = .returned (.string (bmk (s.data.toList.take n.toNat))) ∧ w = w' := by
  unfold maxLen at hs
  have hl : s.data.toList.length = s.size := by simp
  by_cases h : n < (s.size : Int)
  · go_enter Tryd.func7, Tryd.ntmps7
    go_wp2
    go_ret
    refine ⟨ret_str (WideShapes.bytes_inj ?_), rfl⟩
    rw [Lib.extract_data, bmk_data]
    simp
  · go_enter Tryd.func7, Tryd.ntmps7
    go_wp2
    go_ret
    refine ⟨ret_str ?_, rfl⟩
    rw [List.take_of_length_le (by omega), bmk_eta]

theorem joinTail_snoc (sep : List UInt8) (l : List (List UInt8)) (x : List UInt8) : Lib.joinTail sep (l ++ [x]) = Lib.joinTail sep l ++ (sep ++ x) := by simp [Lib.joinTail]
theorem pathJoin_tail (l : List (List UInt8)) (h : l ≠ []) : pathJoin l = Lib.joinTail [47] l := by
  cases l with
  | nil => exact absurd rfl h
  | cons x r => simp [pathJoin, Lib.join_cons, Lib.joinTail]
theorem bls_take (ss : List ByteArray) (k : Nat) (x : ByteArray) (h : ss[k]? = some x) : bls (ss.take (k + 1)) = bls (ss.take k) ++ [x.data.toList] := by
  obtain ⟨hk, e⟩ := List.getElem?_eq_some_iff.1 h
  rw [List.take_add_one, h]
  simp [bls]

theorem joinTail_take (sep : List UInt8) (l : List (List UInt8)) (k : Nat) : (Lib.joinTail sep (l.take k)).length ≤ (Lib.joinTail sep l).length := by
  have h : Lib.joinTail sep l = Lib.joinTail sep (l.take k) ++ Lib.joinTail sep (l.drop k) := by
    unfold Lib.joinTail
    rw [← List.flatten_append, ← List.map_append, List.take_append_drop]
  rw [h, List.length_append]
  omega

theorem rjoin_any {S : Nat → Prop} (a : Option Addr) (len cap : Nat) (ss : List ByteArray) (w : World) (h : StrsAt S w a len ss) (hj : (pathJoin (bls ss)).length ≤ 140737488355328) :
    Calls Tryd.prog 16 #[.slice a len cap] w fun e w' => e = .returned (.string (bmk (pathJoin (bls ss)))) ∧ Below w.heap.size w w' := by
  have hl := h.length
  have hm := h.row.small
  unfold maxLen at hm
  by_cases h0 : len = 0
  · subst h0
    obtain rfl : ss = [] := by simpa using hl
    go_enter Tryd.func16, Tryd.ntmps16
    go_wp2
    go_ret
    exact ⟨ret_str rfl, Below.refl _ _⟩
  · have hb0 : ((len : Int) == 0) = false := by simp [h0]
    have HL := Lib.hid hl
    have H0 := Lib.hid h0
    clear hl h0
    go_enter Tryd.func16, Tryd.ntmps16
    go_wp2
    go_loopw [3, 4] (fun t i wr => ∃ k : Nat, k ≤ len ∧ i = .int .i64 k ∧ t = .string (bmk (Lib.joinTail [47] (bls (ss.take k)))) ∧ Below w.heap.size w wr) (fun _ i _ => len - (intOf i).toNat)
    case atStart => exact ⟨0, by omega, rfl, rfl, Below.refl _ _⟩
    case round =>
      obtain ⟨k, hk, rfl, rfl, hb⟩ := hrel
      by_cases hlt : k < len
      · obtain ⟨b, off, x, rfl, _, _, hx, _, hc⟩ := (h.below hb (Nat.le_refl _)).cell k hlt
        obtain ⟨t, ht⟩ : ∃ t, t = bmk (Lib.joinTail [47] (bls (ss.take k))) := ⟨_, rfl⟩
        rw [← ht]
        have hs : bmk (Lib.joinTail [47] (bls (ss.take (k + 1)))) = t ++ ⟨#[47]⟩ ++ x := by
          rw [bls_take ss k x hx, joinTail_snoc, ht]
          apply WideShapes.bytes_inj
          simp [bmk_data]
        have hsz : t.size + 1 + x.size ≤ 140737488355328 := by
          have h1 := congrArg ByteArray.size hs
          rw [bmk_size] at h1
          have h2 := joinTail_take [47] (bls ss) (k + 1)
          have h5 : pathJoin (bls ss) = Lib.joinTail [47] (bls ss) := pathJoin_tail _ (by intro e; have e1 := congrArg List.length e; rw [bls_len, HL.out] at e1; simp at e1; omega)
          rw [← h5] at h2
          have h3 : bls (ss.take (k + 1)) = (bls ss).take (k + 1) := by simp [bls]
          rw [h3] at h1
          simp [ByteArray.size_append] at h1
          have h4 : (⟨#[47]⟩ : ByteArray).size = 1 := rfl
          omega
        have HS := Lib.hid hs
        clear hs hx h ht hj
        go_wp2
        go_roundw
        case rel => exact ⟨k + 1, by omega, by go_num, by rw [HS.out], hb⟩
        case measure => simp [intOf]; omega
      · have hk' : k = len := by omega
        have HK := Lib.hid hk'
        clear hk'
        go_wp2
        go_ret
        refine ⟨ret_str ?_, hb⟩
        have hl := HL.out
        have h0 := H0.out
        rw [List.take_of_length_le (by have := HK.out; omega), pathJoin_tail]
        intro e
        have := congrArg List.length e
        rw [bls_len] at this
        simp at this
        rw [this] at hl
        exact h0 (by simpa using hl.symm)

theorem rwithin_any {S S' : Nat → Prop} (a a' : Option Addr) (len cap len' cap' : Nat) (ss ss' : List ByteArray) (w : World) (h : StrsAt S w a len ss) (h' : StrsAt S' w a' len' ss') :
    Calls Tryd.prog 17 #[.slice a len cap, .slice a' len' cap'] w fun e w' => e = .returned (.bool (withinB ss ss')) ∧ Below w.heap.size w w' := by
  have hl := h.length
  have hl' := h'.length
  have hm := h.row.small
  have hm' := h'.row.small
  unfold maxLen at hm hm'
  by_cases hle : len' ≤ len
  · have HL := Lib.hid hl
    have HL' := Lib.hid hl'
    clear hl hl'
    go_enter Tryd.func17, Tryd.ntmps17
    go_wp2
    go_loopw [5] (fun i wr => ∃ k : Nat, k ≤ len' ∧ i = .int .i64 k ∧ ss.take k = ss'.take k ∧ Below w.heap.size w wr) (fun i _ => len' - (intOf i).toNat)
    case atStart => exact ⟨0, by omega, rfl, rfl, Below.refl _ _⟩
    case round =>
      obtain ⟨k, hk, rfl, ht, hb⟩ := hrel
      have HT := Lib.hid ht
      clear ht
      by_cases hlt : k < len'
      · obtain ⟨b, off, x, rfl, _, _, hx, _, hc⟩ := (h.below hb (Nat.le_refl _)).cell k (by omega)
        obtain ⟨b', off', y, rfl, _, _, hy, _, hc'⟩ := (h'.below hb (Nat.le_refl _)).cell k hlt
        have HX := Lib.hid hx
        have HY := Lib.hid hy
        clear hx hy h h'
        have hk0 : (0 : Int) ≤ (k : Int) := by omega
        have hk1 : (k : Int) < (len : Int) := by omega
        have hk2 : (k : Int) < (len' : Int) := by omega
        by_cases hxy : x = y
        · subst hxy
          go_wp2
          go_quiet (fail)
          go_wp2
          go_roundw
          case rel => exact ⟨k + 1, by omega, by go_num, take_succ_eq HT.out HX.out HY.out, hb.trans ⟨rfl, rfl, rfl, Nat.le_refl _, fun _ _ => rfl⟩⟩
          case measure => simp [intOf]; omega
        · have hxl := toList_ne hxy
          have HN := Lib.hid hxy
          clear hxy
          go_wp2
          go_quiet (fail)
          go_wp2
          go_ret
          refine ⟨ret_bool ?_, hb.trans ⟨rfl, rfl, rfl, Nat.le_refl _, fun _ _ => rfl⟩⟩
          symm
          unfold withinB
          rw [decide_eq_false_iff_not]
          refine getElem_ne_of (k := k) ?_ HY.out HN.out
          rw [List.getElem?_take, if_pos (by have := HL'.out; omega)]
          exact HX.out
      · have hk' : k = len' := by omega
        have HK := Lib.hid hk'
        clear hk'
        go_wp2
        go_ret
        refine ⟨ret_bool ?_, hb⟩
        have := HT.out
        rw [HK.out] at this
        unfold withinB
        rw [HL'.out, this, List.take_of_length_le (by have := HL'.out; omega)]
        simp
  · have hp : withinB ss ss' = false := by
      unfold withinB
      rw [decide_eq_false_iff_not]
      intro hh
      have := congrArg List.length hh
      simp at this
      omega
    have HP := Lib.hid hp
    clear hp hl hl'
    go_enter Tryd.func17, Tryd.ntmps17
    go_wp2
    go_ret
    exact ⟨ret_bool HP.out.symm, Below.refl _ _⟩
end Go.Proofs.YtdgmndahfbmgfaaDoor
