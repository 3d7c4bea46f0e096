/- slices.Equal of texts; path.Within. What chapter 7's reference says: Good, Within. The reference: right, look, Look, file. -/
import Derived.Test.YtbapdoicejakhaaGreatM09
import Derived.Test.YtbapdoicejakhaaGreatM20
namespace Go.Proofs.YtbapdoicejakhaaGreat
open Go.ChangeShapes Go.WideShapes Go.ChangeAt Go.RowKit
set_option linter.unusedVariables false

theorem equal_any {S S' : Nat → Prop} (a a' : Option Addr) (len cap len' cap' : Nat) (ss ss' : List ByteArray) (w : World) (h : StrsAt S w a len ss) (h' : StrsAt S' w a' len' ss') :
    Calls Tryz.prog 139 #[.slice a len cap, .slice a' len' cap'] w fun e w' => e = .returned (.bool (decide (ss = ss'))) ∧ Below w.heap.size w w' := by
  have hl := h.length
  have hl' := h'.length
  have hm := h.row.small
  have hm' := h'.row.small
  unfold maxLen at hm hm'
  by_cases hne : len = len'
  · subst hne
    by_cases h0 : len = 0
    · subst h0
      refine (Tryz.slices_Equal_string_empty a a' cap 0 cap' w (by omega)).mono ?_
      rintro e w' ⟨rfl, rfl⟩
      obtain rfl : ss = [] := by simpa using hl
      obtain rfl : ss' = [] := by simpa using hl'
      exact ⟨rfl, Below.refl _ _⟩
    · obtain ⟨b, off, rfl, _, _, _⟩ := h.row.at_ (by omega)
      obtain ⟨b', off', rfl, _, _, _⟩ := h'.row.at_ (by omega)
      refine (Tryz.slices_Equal_string b off len cap b' off' len cap' ss ss' w (by omega) (by omega) (by omega) (by omega) (fun j hj => strs_getD h j hj) (fun j hj => strs_getD h' j hj)).mono ?_
      rintro e w' ⟨rfl, q, rfl⟩
      rw [List.take_of_length_le (by omega), List.take_of_length_le (by omega)]
      exact ⟨rfl, ⟨rfl, rfl, rfl, Nat.le_refl _, fun _ _ => rfl⟩⟩
  · refine (Tryz.slices_Equal_string_lens a a' len cap len' cap' w hne).mono ?_
    rintro e w' ⟨rfl, rfl⟩
    have : ss ≠ ss' := fun e => hne (by rw [← hl, ← hl', e])
    exact ⟨by simp [this], Below.refl _ _⟩

def withinB (ss ss' : List ByteArray) : Bool := decide (ss.take ss'.length = ss')

theorem pwithin_any {S S' : Nat → Prop} (a a' : Option Addr) (len cap len' cap' : Nat) (ss ss' : List ByteArray) (w : World) (h : StrsAt S w a len ss) (h' : StrsAt S' w a' len' ss') (hcap : len ≤ cap) :
    Calls Tryz.prog 102 #[.slice a len cap, .slice a' len' cap'] w fun e w' => e = .returned (.bool (withinB ss ss')) ∧ Below w.heap.size w w' := by
  have hl := h.length
  have hl' := h'.length
  have hm := h.row.small
  unfold maxLen at hm
  by_cases hle : len' ≤ len
  · have hT := h.take len' hle
    have hp : decide (ss.take len' = ss') = withinB ss ss' := by
      unfold withinB; rw [hl']
    have HP := Lib.hid hp
    clear hp hl hl'
    have e5 : len' ≤ cap := by omega
    cases a with
    | none =>
      have h0 : len' = 0 := by
        rcases Nat.eq_zero_or_pos len' with h0 | h0
        · exact h0
        · obtain ⟨b, off, e, _⟩ := h.row.at_ (by omega)
          cases e
      subst h0
      go_enter Tryz.func102, Tryz.ntmps102
      go_wp2_with fail
      refine (equal_any _ _ _ _ _ _ _ _ _ hT h').mono ?_
      rintro e w1 ⟨rfl, hb⟩
      rw [HP.out]
      go_wp2_with fail
      go_ret
      exact ⟨rfl, hb⟩
    | some ad =>
      go_enter Tryz.func102, Tryz.ntmps102
      go_wp2_with fail
      refine (equal_any _ _ _ _ _ _ _ _ _ hT h').mono ?_
      rintro e w1 ⟨rfl, hb⟩
      rw [HP.out]
      go_wp2_with fail
      go_ret
      exact ⟨rfl, hb⟩
  · have hp : withinB ss ss' = false := by
      unfold withinB
      rw [decide_eq_false_iff_not]
      intro hh
      have := congrArg List.length hh
      simp at this
      omega
    have HP := Lib.hid hp
    clear hp hl hl'
    go_enter Tryz.func102, Tryz.ntmps102
    go_wp2_with fail
    go_ret
    exact ⟨ret_bool HP.out.symm, Below.refl _ _⟩

end Go.Proofs.YtbapdoicejakhaaGreat
namespace Go.Proofs.YtbapdoicejakhaaGreat
open Go.ChangeShapes Go.WideShapes Go.ChangeAt Go.RowKit
set_option linter.unusedVariables false

theorem getElem_ne_of {α : Type} {l l' : List α} {k : Nat} {x y : α} (hx : l[k]? = some x) (hy : l'[k]? = some y) (h : x ≠ y) : l ≠ l' := by
  intro e; rw [e, hy] at hx; exact h (Option.some.inj hx).symm
theorem take_succ_eq {α : Type} {l l' : List α} {k : Nat} {x : α} (h : l.take k = l'.take k) (hx : l[k]? = some x) (hy : l'[k]? = some x) : l.take (k + 1) = l'.take (k + 1) := by
  rw [List.take_add_one, List.take_add_one, h, hx, hy]
theorem toList_ne {x y : ByteArray} (h : x ≠ y) : (x.toList == y.toList) = false := by
  rw [beq_eq_false_iff_ne, ByteArray.toList_eq, ByteArray.toList_eq]
  intro e
  exact h (WideShapes.bytes_inj e)
theorem idx_byte (s : ByteArray) (k : Nat) (h : k < s.size) : s[k] = s.data.toList.getD k 0 := by
  have h2 : k < s.data.toList.length := by simpa using h
  simp only [List.getD, List.getElem?_eq_getElem h2, Option.getD_some]
  rfl
set_option maxHeartbeats 1000000 in
theorem rgood_any (s : ByteArray) (w : World) (hs : s.size ≤ maxLen) :
    Calls Tryz.prog 108 #[.string s] w fun e w' => e = .returned (.bool (goodL s.data.toList)) ∧ Below w.heap.size w w' := by
  unfold maxLen at hs
  have hb := Below.refl w.heap.size w
  go_enter Tryz.func108, Tryz.ntmps108
  go_wp2
  go_loop [3] (fun i => ∃ k : Nat, k ≤ s.size ∧ i = .int .i64 k ∧ (s.data.toList.take k).all okByte = true) (fun i => s.size - (intOf i).toNat)
  case atStart => exact ⟨0, by omega, rfl, rfl⟩
  case round =>
    obtain ⟨k, hk, rfl, ha⟩ := hrel
    have HA := Lib.hid ha
    clear ha
    by_cases hlt : k < s.size
    · obtain ⟨c, hcc⟩ : ∃ c, c = s.data.toList.getD k 0 := ⟨_, rfl⟩
      have hix := idx_byte s k hlt
      rw [← hcc] at hix
      have hsn := take_all okByte s.data.toList k (by simpa using hlt)
      rw [← hcc] at hsn
      have HS := Lib.hid hsn
      have HG : Hid (okByte c = false → goodL s.data.toList = false) := fun h => by
        have := all_take okByte s.data.toList k (by simpa using hlt)
        rw [← hcc] at this
        simp [goodL, this h]
      clear hsn hcc
      have hbd := byte_bd c
      rcases ok_ways c with ⟨ho, h1, h2⟩ | ⟨ho, h1, h2, h3⟩ | ⟨ho, h1⟩ | ⟨ho, h1⟩ | ⟨ho, h1⟩ | ⟨ho, h1, h2, h3, h4, h5, h6⟩ | ⟨ho, h1, h2, h3, h4, h5, h6⟩ | ⟨ho, h1, h2, h3, h4, h5⟩
      iterate 5
        · have HO := Lib.hid ho
          clear ho HG
          go_wp2
          go_round
          case rel => exact ⟨k + 1, by omega, by go_num, by rw [HS.out, HA.out, HO.out]; rfl⟩
          case measure => simp [intOf]; omega
      iterate 3
        · have HO := Lib.hid ho
          clear ho
          go_wp2
          go_ret
          exact ⟨ret_bool (HG.out HO.out).symm, hb⟩
    · have hk' : k = s.size := by omega
      have HA2 : s.data.toList.all okByte = true := by
        have := HA.out
        rw [hk', List.take_of_length_le (by simp)] at this
        exact this
      have hl : s.data.toList.length = s.size := by simp
      have he := ByteArray.toList_eq s
      have ways : (s.toList = [] ∧ s.toList.isEmpty = true ∧ goodL s.data.toList = false) ∨
          (¬ s.toList = [] ∧ s.toList.isEmpty = false ∧ 16 < s.size ∧ goodL s.data.toList = false) ∨
          (¬ s.toList = [] ∧ s.toList.isEmpty = false ∧ s.size ≤ 16 ∧ s.toList = [46] ∧ (s.toList == [46]) = true ∧ goodL s.data.toList = false) ∨
          (¬ s.toList = [] ∧ s.toList.isEmpty = false ∧ s.size ≤ 16 ∧ ¬ s.toList = [46] ∧ (s.toList == [46]) = false ∧ s.toList = [46, 46] ∧ (s.toList == [46, 46]) = true ∧ goodL s.data.toList = false) ∨
          (¬ s.toList = [] ∧ s.toList.isEmpty = false ∧ s.size ≤ 16 ∧ ¬ s.toList = [46] ∧ (s.toList == [46]) = false ∧ ¬ s.toList = [46, 46] ∧ (s.toList == [46, 46]) = false ∧ goodL s.data.toList = true) := by
        rw [he]
        generalize s.data.toList = l at HA2 hl
        rw [← hl]
        exact good_ways l HA2
      have hz1 : Hid (s.toList = [] → s.size < 1) := fun h => by rw [he] at h; rw [h] at hl; simp at hl; omega
      have hz2 : Hid (¬ s.toList = [] → 1 ≤ s.size) := fun h => by
        rw [he] at h
        have := List.length_pos_iff.2 h
        omega
      clear HA2 hl he HA hk'
      rcases ways with ⟨h1, h2, hg⟩ | ⟨h1, h2, h3, hg⟩ | ⟨h1, h2, h3, h4, h5, hg⟩ | ⟨h1, h2, h3, h4, h5, h6, h7, hg⟩ | ⟨h1, h2, h3, h4, h5, h6, h7, hg⟩
      · have hz := hz1.out h1
        have HG := Lib.hid hg
        clear hg
        go_wp2
        go_ret
        exact ⟨ret_bool HG.out.symm, hb⟩
      all_goals
        have hz := hz2.out h1
        have HG := Lib.hid hg
        clear hg
        go_wp2
        go_ret
        exact ⟨ret_bool HG.out.symm, hb⟩
theorem rwithin_any {S S' : Nat → Prop} (a a' : Option Addr) (len cap len' cap' : Nat) (ss ss' : List ByteArray) (w : World) (h : StrsAt S w a len ss) (h' : StrsAt S' w a' len' ss') :
    Calls Tryz.prog 125 #[.slice a len cap, .slice a' len' cap'] w fun e w' => e = .returned (.bool (withinB ss ss')) ∧ Below w.heap.size w w' := by
  have hl := h.length
  have hl' := h'.length
  have hm := h.row.small
  have hm' := h'.row.small
  unfold maxLen at hm hm'
  by_cases hle : len' ≤ len
  · have HL := Lib.hid hl
    have HL' := Lib.hid hl'
    clear hl hl'
    go_enter Tryz.func125, Tryz.ntmps125
    go_wp2
    go_loopw [5] (fun i wr => ∃ k : Nat, k ≤ len' ∧ i = .int .i64 k ∧ ss.take k = ss'.take k ∧ Below w.heap.size w wr) (fun i _ => len' - (intOf i).toNat)
    case atStart => exact ⟨0, by omega, rfl, rfl, Below.refl _ _⟩
    case round =>
      obtain ⟨k, hk, rfl, ht, hb⟩ := hrel
      have HT := Lib.hid ht
      clear ht
      by_cases hlt : k < len'
      · obtain ⟨b, off, x, rfl, _, _, hx, _, hc⟩ := (h.below hb (Nat.le_refl _)).cell k (by omega)
        obtain ⟨b', off', y, rfl, _, _, hy, _, hc'⟩ := (h'.below hb (Nat.le_refl _)).cell k hlt
        have HX := Lib.hid hx
        have HY := Lib.hid hy
        clear hx hy h h'
        have hk0 : (0 : Int) ≤ (k : Int) := by omega
        have hk1 : (k : Int) < (len : Int) := by omega
        have hk2 : (k : Int) < (len' : Int) := by omega
        by_cases hxy : x = y
        · subst hxy
          go_wp2
          go_quiet (fail)
          go_wp2
          go_roundw
          case rel => exact ⟨k + 1, by omega, by go_num, take_succ_eq HT.out HX.out HY.out, hb.trans ⟨rfl, rfl, rfl, Nat.le_refl _, fun _ _ => rfl⟩⟩
          case measure => simp [intOf]; omega
        · have hxl := toList_ne hxy
          have HN := Lib.hid hxy
          clear hxy
          go_wp2
          go_quiet (fail)
          go_wp2
          go_ret
          refine ⟨ret_bool ?_, hb.trans ⟨rfl, rfl, rfl, Nat.le_refl _, fun _ _ => rfl⟩⟩
          symm
          unfold withinB
          rw [decide_eq_false_iff_not]
          refine getElem_ne_of (k := k) ?_ HY.out HN.out
          rw [List.getElem?_take, if_pos (by have := HL'.out; omega)]
          exact HX.out
      · have hk' : k = len' := by omega
        have HK := Lib.hid hk'
        clear hk'
        go_wp2
        go_ret
        refine ⟨ret_bool ?_, hb⟩
        have := HT.out
        rw [HK.out] at this
        unfold withinB
        rw [HL'.out, this, List.take_of_length_le (by have := HL'.out; omega)]
        simp
  · have hp : withinB ss ss' = false := by
      unfold withinB
      rw [decide_eq_false_iff_not]
      intro hh
      have := congrArg List.length hh
      simp at this
      omega
    have HP := Lib.hid hp
    clear hp hl hl'
    go_enter Tryz.func125, Tryz.ntmps125
    go_wp2
    go_ret
    exact ⟨ret_bool HP.out.symm, Below.refl _ _⟩
end Go.Proofs.YtbapdoicejakhaaGreat
namespace Go.Proofs.YtbapdoicejakhaaGreat
open Go.ChangeShapes Go.WideShapes Go.ChangeAt Go.RowKit
set_option linter.unusedVariables false
set_option linter.unusedSimpArgs false

theorem mem_ents {T : TrM} (hs : ASorted ilt T) {e : Ent} : e ∈ entsM T ↔ ∃ x, aget e.1 T = some x ∧ e.2 ∈ x.names := by
  unfold entsM
  rw [List.mem_flatMap]
  constructor
  · rintro ⟨q, hq, he⟩
    obtain ⟨y, hy, rfl⟩ := List.mem_map.1 he
    exact ⟨q.2, aget_of_mem iltLaws hs hq, hy⟩
  · rintro ⟨x, hx, he⟩
    exact ⟨(e.1, x), aget_mem hx, List.mem_map.2 ⟨e.2, he, rfl⟩⟩
theorem ent_none {T : TrM} (hs : ASorted ilt T) {id : Int} {x : ItM} {nm : Nm} (hx : aget id T = some x) (hn : aget nm x.names = none) : idxI (isEnt id nm) (entsM T) = -1 := by
  refine idxI_none ?_
  rw [List.any_eq_false]
  intro e he h
  obtain ⟨y, hy, hm⟩ := (mem_ents hs).1 he
  simp only [isEnt, decide_eq_true_eq] at h
  rw [h.1, hx] at hy
  cases hy
  exact aget_none.1 hn _ hm h.2
theorem ent_some {T : TrM} (hT : OkP T) {id j : Int} {x : ItM} {nm : Nm} (hx : aget id T = some x) (hn : aget nm x.names = some j) : ∃ k : Nat, idxI (isEnt id nm) (entsM T) = k ∧ (entsM T)[k]? = some (id, nm, j) := by
  have hmem : ((id, nm, j) : Ent) ∈ entsM T := (mem_ents hT.sorted).2 ⟨x, hx, aget_mem hn⟩
  cases hf : (entsM T).findIdx? (isEnt id nm) with
  | none =>
    rw [List.findIdx?_eq_none_iff] at hf
    have := hf _ hmem
    simp [isEnt] at this
  | some k =>
    refine ⟨k, by simp [idxI, hf], ?_⟩
    rw [List.findIdx?_eq_some_iff_getElem] at hf
    obtain ⟨hk, hp, _⟩ := hf
    have h1 : (entsM T)[k]? = some (entsM T)[k] := List.getElem?_eq_getElem hk
    obtain ⟨e, he⟩ : ∃ e, e = (entsM T)[k] := ⟨_, rfl⟩
    have hm := List.getElem_mem hk
    rw [← he] at h1 hp hm
    simp only [isEnt, decide_eq_true_eq] at hp
    obtain ⟨y, hy, hm2⟩ := (mem_ents hT.sorted).1 hm
    rw [hp.1, hx] at hy
    cases hy
    have h3 := aget_of_mem bbLt (hT.each id x hx).sorted hm2
    rw [hp.2, hn] at h3
    rw [h1]
    congr 1
    exact Prod.ext hp.1 (Prod.ext hp.2 (Option.some.inj h3).symm)
theorem cell_str {S : Nat → Prop} {w : World} {a : Option Addr} {n : Nat} {ls : List Nm} (h : StrsAt S w a n (ls.map strOf)) (k : Nat) (hk : k < n) : ∃ b off nm, a = some ⟨b, off, none⟩ ∧ S b ∧ b < w.heap.size ∧ ls[k]? = some nm ∧ nm.length ≤ maxLen ∧ w.cell? ⟨b, off + k, none⟩ = some (.string (strOf nm)) := by
  obtain ⟨b, off, s, e, hS, hb, hs, hsz, hc⟩ := h.cell k hk
  rw [List.getElem?_map] at hs
  cases hq : ls[k]? with
  | none => rw [hq] at hs; cases hs
  | some nm =>
    rw [hq] at hs
    have : strOf nm = s := by simpa using hs
    subst this
    rw [strOf_size] at hsz
    exact ⟨b, off, nm, e, hS, hb, rfl, hsz, hc⟩
theorem fineL_bad {ls : List Nm} (h : ls.any (fun x => !goodL x) = true) : fineL ls = 12 := by unfold fineL; rw [if_pos h]
theorem fineL_ok {ls : List Nm} (h : ls.any (fun x => !goodL x) = false) : fineL ls = if 8 < ls.length then 3 else 0 := by unfold fineL; rw [if_neg (by rw [h]; decide)]
set_option maxHeartbeats 1000000 in
theorem rright_any {S : Nat → Prop} (a : Option Addr) (n c : Nat) (ls : List Nm) (w : World) (hS : StrsAt S w a n (ls.map strOf)) :
    Calls Tryz.prog 61 #[.slice a n c] w fun e w' => e = .returned (.int .i64 (fineL ls)) ∧ Below w.heap.size w w' := by
  have hln : ls.length = n := by have := hS.length; simpa using this
  have hnm := hS.row.small
  unfold maxLen at hnm
  have HS := Lib.hid (fun w1 (hb : Below w.heap.size w w1) => hS.below hb (Nat.le_refl _))
  have HL := Lib.hid hln
  clear hS hln
  go_enter Tryz.func61, Tryz.ntmps61
  go_wp2
  go_loopw [3] (fun i wr => ∃ k : Nat, k ≤ n ∧ i = .int .i64 k ∧ (ls.take k).any (fun x => !goodL x) = false ∧ Below w.heap.size w wr) (fun i _ => n - (intOf i).toNat)
  case atStart => exact ⟨0, by omega, rfl, by simp, Below.refl _ _⟩
  case round =>
    obtain ⟨k, hk, rfl, hany, hB⟩ := hrel
    have HA := Lib.hid hany
    have HB := Lib.hid hB
    clear hany hB
    by_cases hlt : k < n
    · obtain ⟨b, off, nm, rfl, _, hbw, hx, hsz, hc⟩ := cell_str (HS.out wr HB.out) k hlt
      have HX := Lib.hid hx
      have HG := Lib.hid (rgood_any (strOf nm) wr (by rw [strOf_size]; exact hsz))
      have e0 : (strOf nm).data.toList = nm := by simp [strOf]
      rw [e0] at HG
      clear hx hsz e0
      have i0 : (0 : Int) ≤ k := by omega
      have i1 : (k : Int) < n := by omega
      cases hp : goodL nm with
      | true =>
        rw [hp] at HG
        have HP : Hid ((fun x : Nm => !goodL x) nm = false) := by show (!goodL nm) = false; rw [hp]; rfl
        clear hp
        go_wp2_with fail
        (with_reducible refine HG.out.mono ?_)
        rintro e w1 ⟨rfl, hb1⟩
        go_wp2_with fail
        go_roundw
        case rel => exact ⟨k + 1, by omega, by go_num, any_take_succ HA.out HX.out HP.out, HB.out.trans (hb1.mono HB.out.size)⟩
        case measure => simp [intOf]; omega
      | false =>
        rw [hp] at HG
        have HP : Hid (ls.any (fun x => !goodL x) = true) := by
          show ls.any _ = true
          rw [List.any_eq_true]
          exact ⟨nm, List.mem_of_getElem? HX.out, by rw [hp]; rfl⟩
        clear hp
        go_wp2_with fail
        (with_reducible refine HG.out.mono ?_)
        rintro e w1 ⟨rfl, hb1⟩
        go_wp2_with fail
        go_ret
        exact ⟨ret_int (fineL_bad HP.out).symm, HB.out.trans (hb1.mono HB.out.size)⟩
    · have HF : Hid (fineL ls = if 8 < n then 3 else 0) := by
        have := HA.out
        rw [List.take_of_length_le (by have := HL.out; omega)] at this
        have h2 := fineL_ok this
        rw [HL.out] at h2
        exact h2
      by_cases h8 : 8 < n
      · have hd : decide ((8 : Int) < (n : Int)) = true := by simp only [decide_eq_true_eq]; omega
        rw [if_pos h8] at HF
        clear h8
        go_wp2
        go_ret
        exact ⟨ret_int HF.out.symm, HB.out⟩
      · have hd : decide ((8 : Int) < (n : Int)) = false := by simp only [decide_eq_false_iff_not]; omega
        rw [if_neg h8] at HF
        clear h8
        go_wp2
        go_ret
        exact ⟨ret_int HF.out.symm, HB.out⟩
section
variable {F : Nat → Prop} {r : Nat} {T : TrM}
set_option maxHeartbeats 2000000 in
theorem rlook_any {S : Nat → Prop} (a : Option Addr) (n c : Nat) (ls : List Nm) (w : World) (h : RefAt F w r T) (hT : OkM T) (hE : (entsM T).length ≤ 1000000) (hS : StrsAt S w a n (ls.map strOf)) :
    Calls Tryz.prog 71 #[ptr r, .slice a n c] w fun e w' => e = .returned (.tuple #[.int .i64 (lookM T 0 ls).1, .int .i64 (lookM T 0 ls).2]) ∧ Below w.heap.size w w' := by
  have hln : ls.length = n := by have := hS.length; simpa using this
  have hnm := hS.row.small
  unfold maxLen at hnm
  have HS := Lib.hid (fun w1 (hb : Below w.heap.size w w1) => hS.below hb (Nat.le_refl _))
  have HH := Lib.hid (fun w1 (hb : Below w.heap.size w w1) => h.below hb (Nat.le_refl _))
  have hr0 := h.low r h.own
  have HT := Lib.hid hT
  have HL := Lib.hid hln
  have HE := Lib.hid hE
  clear hS hln h hT hE
  go_enter Tryz.func71, Tryz.ntmps71
  go_wp2
  go_loopw [6, 7] (fun s i wr => ∃ (k : Nat) (id : Int), k ≤ n ∧ i = .int .i64 k ∧ s = .int .i64 id ∧ (aget id T).isSome = true ∧ lookM T id (ls.drop k) = lookM T 0 ls ∧ Below w.heap.size w wr) (fun _ i _ => n - (intOf i).toNat)
  case atStart => exact ⟨0, 0, by omega, rfl, rfl, root_there HT.out, by simp, Below.refl _ _⟩
  case round =>
    obtain ⟨k, id, hk, rfl, rfl, hid, hlk, hB⟩ := hrel
    obtain ⟨x, hx⟩ := Option.isSome_iff_exists.1 hid
    have HLK := Lib.hid hlk
    have HX := Lib.hid hx
    have HB := Lib.hid hB
    have HSZ := Lib.hid hB.size
    clear hlk hid hx hB
    by_cases hlt : k < n
    · obtain ⟨b, off, nm, rfl, _, hbw, hn, hsz, hc⟩ := cell_str (HS.out wr HB.out) k hlt
      have HN := Lib.hid hn
      have HND := Lib.hid (rnode_any id wr (HH.out wr HB.out) HT.out.toOkP)
      have hnd : nodeM T id = nodeV id x := by unfold nodeM; rw [HX.out]
      rw [hnd] at HND
      unfold nodeV at HND
      have i0 : (0 : Int) ≤ k := by omega
      have i1 : (k : Int) < n := by omega
      clear hn hnd hsz
      by_cases hk2 : x.kind = 2
      · rw [hk2] at HND
        cases hj : aget nm x.names with
        | none =>
          have hfin := Lib.hid (lookM_none HX.out hk2 HN.out hj)
          have HEN := Lib.hid (fun w1 (hb : Below w.heap.size w w1) => rentry_any id nm w1 (HH.out w1 hb) HE.out)
          rw [ent_none HT.out.sorted HX.out hj] at HEN
          clear hj hk2
          go_wp2_with fail
          (with_reducible refine HND.out.mono ?_)
          rintro e w1 ⟨rfl, hb1⟩
          have HB1 := Lib.hid (HB.out.trans (hb1.mono HB.out.size))
          have hcb : b < w1.heap.size := Nat.lt_of_lt_of_le hbw hb1.size
          have hc1 : w1.cell? ⟨b, off + k, none⟩ = some (.string (strOf nm)) := by rw [hb1.cell (p := ⟨b, off + k, none⟩) hbw]; exact hc
          have hr1 : r < w1.heap.size := Nat.lt_of_lt_of_le hr0 HB1.out.size
          clear hb1
          go_wp2_with fail
          (with_reducible refine (HEN.out _ (HB1.out.trans ((wall w1 _).mono HB1.out.size))).mono ?_)
          rintro e w2 ⟨rfl, rfl⟩
          go_wp2_with fail
          go_ret2
          exact ⟨ret2_int (by rw [← HLK.out, hfin.out]), HB1.out.trans ((wall w1 _).mono HB1.out.size)⟩
        | some j =>
          have hfin := Lib.hid (lookM_step HX.out hk2 HN.out hj)
          have HJ := Lib.hid ((HT.out.leads id x HX.out _ (aget_mem hj)).1)
          have HEN := Lib.hid (fun w1 (hb : Below w.heap.size w w1) => rentry_any id nm w1 (HH.out w1 hb) HE.out)
          obtain ⟨m, hm1, hm2⟩ := ent_some HT.out.toOkP HX.out hj
          rw [hm1] at HEN
          have HM2 := Lib.hid hm2
          clear hj hk2 hm1 hm2
          go_wp2_with fail
          (with_reducible refine HND.out.mono ?_)
          rintro e w1 ⟨rfl, hb1⟩
          have HB1 := Lib.hid (HB.out.trans (hb1.mono HB.out.size))
          have hcb : b < w1.heap.size := Nat.lt_of_lt_of_le hbw hb1.size
          have hc1 : w1.cell? ⟨b, off + k, none⟩ = some (.string (strOf nm)) := by rw [hb1.cell (p := ⟨b, off + k, none⟩) hbw]; exact hc
          have hr1 : r < w1.heap.size := Nat.lt_of_lt_of_le hr0 HB1.out.size
          obtain ⟨aE, cE, q2, -, hrow, -⟩ := (HH.out w1 HB1.out).ent
          obtain ⟨b2, off2, rfl, -, hb2, hml, hc2⟩ := hrow.wide entC_len rfl HM2.out (by omega)
          have q3 : w1.cell? ⟨b2, off2 + m * 3 + 2, none⟩ = some (.int .i64 j) := hc2 2 (by omega)
          have m0 : (0 : Int) ≤ m := by omega
          have m1 : (m : Int) < (entsM T).length := by omega
          have m2 : ¬ (m : Int) < 0 := by omega
          clear hb1 hrow hc2
          go_wp2_with fail
          (with_reducible refine (HEN.out _ (HB1.out.trans ((wall w1 _).mono HB1.out.size))).mono ?_)
          rintro e w2 ⟨rfl, rfl⟩
          go_wp2_with fail
          go_roundw
          case rel => exact ⟨k + 1, j, by omega, by go_num, rfl, HJ.out, by rw [← hfin.out]; exact HLK.out, HB1.out.trans ((wall w1 _).mono HB1.out.size)⟩
          case measure => simp [intOf]; omega
      · have e1 : (x.kind == 2) = false := by simpa using hk2
        have e2 : (x.kind != 2) = true := by simpa using hk2
        have hfin := Lib.hid (lookM_file HX.out hk2 HN.out)
        clear hk2
        go_wp2_with fail
        (with_reducible refine HND.out.mono ?_)
        rintro e w1 ⟨rfl, hb1⟩
        have HB1 := Lib.hid (HB.out.trans (hb1.mono HB.out.size))
        clear hb1
        go_wp2_with fail
        go_ret2
        exact ⟨ret2_int (by rw [← HLK.out, hfin.out]), HB1.out.trans ((wall w1 _).mono HB1.out.size)⟩
    · go_wp2
      go_ret2
      exact ⟨ret2_int (by rw [← HLK.out, List.drop_of_length_le (by have := HL.out; omega)]; rfl), HB.out⟩
end
end Go.Proofs.YtbapdoicejakhaaGreat
