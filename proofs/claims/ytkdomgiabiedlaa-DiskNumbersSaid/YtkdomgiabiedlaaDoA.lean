/- The disk and the reference's: what one call does to both. -/
import Derived.Test.YtkdomgiabiedlaaRefD
import Derived.Test.YtkdomgiabiedlaaWLoop
namespace Go.Proofs.Ytkdomgiabiedlaa
open Go.ChangeShapes Go.WideShapes Go.ChangeAt Go.RowKit
set_option linter.unusedVariables false

/-- The two hold the same. -/
structure SimC (M : DiskM) (R : RefM) : Prop where
  safe : R.safe = M.safe
  now : R.now = imgM M
  dirty : R.dirty = (List.range 64).map fun i : Nat => (dkeys M).contains (i : Int)
  writes : R.writes = M.writes
theorem Sim.c {M : DiskM} {R : RefM} (h : Sim M R) : SimC M R := ⟨h.safe, h.now, h.dirty, h.writes⟩
theorem SimC.full {W w w2 : World} {P Fr : Nat → Prop} {d sb mb r s n t : Nat} {M : DiskM} {R : RefM} (h : SimC M R) (hD : DiskIn W P w d sb mb M) (hR : RefAt Fr w2 r s n t R) : Sim M R := by
  have hl : M.safe.length = 8192 := by rw [← h.safe]; exact hR.len.1
  obtain ⟨F, l, hA, hF⟩ := hD.at_
  refine ⟨h.safe, h.now, h.dirty, h.writes, ⟨hl, fun i hi => hD.row (by rw [hl]; exact hi)⟩, ?_, ?_, dkeys_len hA, hA.writes⟩
  · have := hA.sorted
    unfold ASorted at this
    unfold dkeys
    rw [List.pairwise_map]
    exact this.imp fun {a b} h => by simpa using h
  · intro z hz
    obtain ⟨p, hp, rfl⟩ := List.mem_map.1 hz
    have := hA.range p hp
    rw [hl] at this
    omega
theorem mem_dkeys {M : DiskM} {z : Int} : z ∈ dkeys M ↔ (aget z M.dirty).isSome = true := by
  constructor
  · intro h
    cases hg : aget z M.dirty with
    | some v => rfl
    | none =>
      obtain ⟨p, hp, rfl⟩ := List.mem_map.1 h
      exact absurd rfl (aget_none.1 hg p hp)
  · intro h
    obtain ⟨v, hv⟩ := Option.isSome_iff_exists.1 h
    exact List.mem_map.2 ⟨(z, v), aget_mem hv, rfl⟩
theorem sec_iff {M : DiskM} (h : M.safe.length = 8192) (i : Int) : isSec M i ↔ refSec i := by unfold isSec refSec; rw [h]; omega
theorem sim_write {M : DiskM} {R : RefM} (h : Sim M R) (i : Int) (bs : List UInt8) : SimC (writeM M i bs) (rwriteM R i bs) := by
  have hsi := sec_iff h.ok.1 i
  by_cases hc : isSec M i ∧ bs.length = 128
  · have hc' : refSec i ∧ bs.length = 128 := ⟨hsi.1 hc.1, hc.2⟩
    obtain ⟨j, rfl⟩ : ∃ j : Nat, i = j := ⟨i.toNat, by have := hc.1.1; omega⟩
    have hj : j < 64 := by have := hc'.1.2; omega
    have e1 : rwriteM R j bs = ⟨R.safe, splice R.now (j * 128) bs, R.dirty.set j true, R.writes + 1⟩ := if_pos hc'
    have hok := h.ok.write hc.1 hc.2
    rw [e1]
    refine ⟨?_, ?_, ?_, ?_⟩
    · rw [writeM_safe]; exact h.safe
    · show splice R.now (j * 128) bs = _
      rw [h.now]
      unfold imgM
      rw [h.ok.len, hok.len, splice_mix hj h.ok.2 (by omega)]
      refine mix_congr fun q hq => ?_
      rw [readOf_write hc.1 hc.2]
      by_cases hqj : q = j
      · subst hqj
        rw [if_pos rfl, if_pos rfl, List.drop_eq_nil_of_le (by rw [hc.2, h.ok.2 q hq]; omega), List.append_nil]
      · rw [if_neg hqj, if_neg (by omega)]
    · show R.dirty.set j true = _
      rw [h.dirty]
      refine List.ext_getElem (by simp) fun q h1 h2 => ?_
      have hq : q < 64 := by simpa using h2
      rw [List.getElem_set, List.getElem_map, List.getElem_map, List.getElem_range]
      rw [writeM_ok hc.1 hc.2]
      have hm : ∀ z : Int, (dkeys ⟨M.safe, aput (fun a b : Int => decide (a < b)) (j : Int) bs M.dirty, M.writes + 1⟩).contains z = (decide (z = (j : Int)) || (dkeys M).contains z) := by
        intro z
        rw [Bool.eq_iff_iff]
        simp only [List.contains_iff_mem, Bool.or_eq_true, decide_eq_true_eq, mem_dkeys]
        by_cases hz : z = (j : Int)
        · subst hz; rw [aget_aput_same]; simp
        · rw [aget_aput_other _ hz]; simp [hz]
      rw [hm]
      by_cases hqj : j = q
      · subst hqj; simp
      · have : ¬ (q : Int) = (j : Int) := by omega
        simp [hqj, this]
    · rw [writeM_ok hc.1 hc.2]; show R.writes + 1 = M.writes + 1; rw [h.writes]
  · have e1 : writeM M i bs = M := if_neg hc
    have e2 : rwriteM R i bs = R := if_neg (fun h => hc ⟨hsi.2 h.1, h.2⟩)
    rw [e1, e2]
    exact h.c
theorem sim_writeE {M : DiskM} {R : RefM} (h : Sim M R) (i : Int) (bs : List UInt8) : writeE M i bs = rwriteE i bs := by
  unfold writeE rwriteE
  simp only [sec_iff h.ok.1 i]
theorem none_dirty : List.replicate 64 false = (List.range 64).map fun i : Nat => ([] : List Int).contains (i : Int) := rfl
theorem sim_flush {M : DiskM} {R : RefM} (h : Sim M R) : SimC (flushM M) (rflushM R) :=
  ⟨h.now, by show R.now = _; rw [imgM_clean (M := flushM M) rfl (by rw [h.ok.flush.1])]; exact h.now, none_dirty, h.writes⟩
theorem sim_crash {M : DiskM} {R : RefM} (h : Sim M R) (keep : List Bool) (torn cut : Int) : SimC (crashM M keep torn cut) ⟨(crashM M keep torn cut).safe, (crashM M keep torn cut).safe, List.replicate 64 false, M.writes⟩ :=
  ⟨rfl, (imgM_clean (M := crashM M keep torn cut) rfl (by rw [(h.ok.crash keep torn cut).1])).symm, none_dirty, rfl⟩
theorem sim_read {M : DiskM} {R : RefM} (h : Sim M R) (i : Int) : readM M i = (if refSec i then rowsOf R.now i.toNat else []) ∧ readE M i = (if refSec i then 0 else 1) := by
  have hsi := sec_iff h.ok.1 i
  unfold readM readE
  by_cases hc : isSec M i
  · rw [if_pos hc, if_pos hc, if_pos (hsi.1 hc), if_pos (hsi.1 hc)]
    obtain ⟨j, rfl⟩ : ∃ j : Nat, i = j := ⟨i.toNat, by have := hc.1; omega⟩
    refine ⟨?_, rfl⟩
    rw [h.now]
    exact (h.ok.rows (by have := (hsi.1 hc).2; omega)).symm
  · rw [if_neg hc, if_neg hc, if_neg (fun h => hc (hsi.2 h)), if_neg (fun h => hc (hsi.2 h))]
    exact ⟨rfl, rfl⟩
/-- The dirty sectors, gathered. -/
def gather (M : DiskM) (k : Nat) : List Int := ((List.range k).filter fun i : Nat => (dkeys M).contains (i : Int)).map fun i : Nat => (i : Int)
theorem gather_succ (M : DiskM) (k : Nat) : gather M (k + 1) = gather M k ++ if (dkeys M).contains (k : Int) then [(k : Int)] else [] := by
  unfold gather
  rw [List.range_succ, List.filter_append, List.map_append]
  congr 1
  rw [List.filter_cons, List.filter_nil]
  split <;> rfl
theorem gather_all {M : DiskM} {R : RefM} (h : Sim M R) : gather M 64 = dkeys M := by
  have h1 : (gather M 64).Pairwise (· < ·) := by
    unfold gather
    rw [List.pairwise_map]
    exact (List.Pairwise.filter _ (List.pairwise_lt_range (n := 64))).imp fun {a b} h => by omega
  have hm : ∀ z, z ∈ gather M 64 ↔ z ∈ dkeys M := by
    intro z
    unfold gather
    simp only [List.mem_map, List.mem_filter, List.mem_range, List.contains_iff_mem]
    constructor
    · rintro ⟨i, ⟨_, hi⟩, rfl⟩; exact hi
    · intro hz
      have := h.secs z hz
      exact ⟨z.toNat, ⟨by omega, by rw [show ((z.toNat : Nat) : Int) = z by omega]; exact hz⟩, by omega⟩
  have nd : ∀ {l : List Int}, l.Pairwise (· < ·) → l.Nodup := fun hl => hl.imp fun {a b} h => by omega
  exact ((List.perm_ext_iff_of_nodup (nd h1) (nd h.rise)).2 hm).eq_of_pairwise (fun a b _ _ h1 h2 => by omega) h1 h.rise
theorem gather_len (M : DiskM) (k : Nat) : (gather M k).length ≤ k := by
  unfold gather
  rw [List.length_map]
  exact Nat.le_trans (List.length_filter_le _ _) (by simp)

/-- The reference's disk is turned: the disk is not. -/
theorem DiskIn.beside {W w w' : World} {Q Fr Fr' : Nat → Prop} {d sb mb : Nat} {M : DiskM} (h : DiskIn W Q w d sb mb M) (hk : Keeps Fr w w') (hf : ∀ x, Fr x → Q x ∧ W.heap.size ≤ x) (hf' : ∀ x, Fr' x → Fr x ∨ w.heap.size ≤ x) (hl : ∀ x, Fr' x → x < w'.heap.size) : DiskIn W (fun x => Q x ∨ Fr' x) w' d sb mb M := by
  have h1 := h.touch hk hf
  obtain ⟨F, l, hD, hF⟩ := h.at_
  obtain ⟨F1, l1, hD1, hF1⟩ := h1.at_
  refine ⟨⟨F, l, hD.keeps hk (fun x hx hf0 => (hF x hx).2 (hf x hf0).1), fun x hx => ⟨(hF x hx).1, ?_⟩⟩, h1.below, ?_⟩
  · rintro (hq | hq)
    · exact (hF x hx).2 hq
    · rcases hf' x hq with h2 | h2
      · exact (hF x hx).2 (hf x h2).1
      · have := hD.low x hx; omega
  · rintro x (hq | hq)
    · exact h1.low x hq
    · exact hl x hq
end Go.Proofs.Ytkdomgiabiedlaa
