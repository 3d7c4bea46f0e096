/- disk: Write that succeeds. -/
import Derived.Test.YtkdomgiabiedlaaDiskD
import Derived.Deep.RegionHeld3
namespace Go.Proofs.Ytkdomgiabiedlaa
open Go.ChangeShapes Go.WideShapes Go.ChangeAt Go.RowKit
set_option linter.unusedVariables false

theorem asorted_length {α : Type} : ∀ (l : List (Int × α)) (a : Int) (n : Nat), ASorted (fun a b : Int => decide (a < b)) l → (∀ p ∈ l, a ≤ p.1 ∧ p.1 < a + n) → l.length ≤ n
  | [], _, _, _, _ => by simp
  | x :: r, a, n, hs, hr => by
    obtain ⟨h1, h2⟩ := List.pairwise_cons.1 hs
    have hx := hr x (by simp)
    obtain ⟨m, rfl⟩ : ∃ m, n = m + 1 := ⟨n - 1, by omega⟩
    have := asorted_length r (a + 1) m h2 (fun p hp => by
      have h3 := h1 p hp
      simp only [decide_eq_true_eq] at h3
      have h4 := hr p (by simp [hp])
      omega)
    simp; omega
theorem DiskAt.keys_in {F : Nat → Prop} {d sb mb : Nat} {l : List (Int × Value)} {M : DiskM} {w : World} (h : DiskAt F w d sb mb l M) : ∀ p ∈ l, 0 ≤ p.1 ∧ p.1 < 0 + (4096 : Nat) := by
  intro p hp
  have h1 := h.map.sorted.1.get intLt (k := p.1) (v := p.2) hp
  obtain ⟨row, h2, _⟩ := relO_some' (h.rows p.1) h1
  have h3 := h.range _ (aget_mem h2)
  have h4 := h.len
  simp only at h3
  omega
theorem DiskAt.small {F : Nat → Prop} {d sb mb : Nat} {l : List (Int × Value)} {M : DiskM} {w : World} (h : DiskAt F w d sb mb l M) : l.length ≤ 4096 :=
  asorted_length l 0 4096 h.map.sorted.1 h.keys_in

set_option maxHeartbeats 1000000 in
theorem dwrite_some {F : Nat → Prop} {d sb mb : Nat} {l : List (Int × Value)} {M : DiskM} (i : Nat) (hi : isSec M i) (b off cap : Nat) (bs : List UInt8) (hw : M.writes < 4611686018427387904) (hl : bs.length = 128) (w : World) (hc : ∀ j u, (bs.map bv)[j]? = some u → w.cell? ((⟨b, off, none⟩ : Addr).add j) = some u) (hb : b < w.heap.size) (h : DiskAt F w d sb mb l M) :
    Calls Try.prog 12 #[.pointer (some ⟨d, 0, none⟩), .int .i64 i, .slice (some ⟨b, off, none⟩) 128 cap] w fun e w' => e = .returned (.int .i64 0) ∧ ∃ F' l', DiskAt F' w' d sb mb l' ⟨M.safe, aput (fun a b : Int => decide (a < b)) i bs M.dirty, M.writes + 1⟩ ∧ (∀ x, F' x → F x ∨ w.heap.size ≤ x) ∧ Keeps F w w' := by
  have hd := dis_any (i : Int) w h
  have e1 : decide (0 ≤ (i : Int) ∧ (i : Int) < ((M.safe.length / 128 : Nat) : Int)) = true := decide_eq_true hi
  rw [e1] at hd
  clear e1
  obtain ⟨hc0, hc1, hc2⟩ := head_cells h
  have hdw := h.low _ h.own.1
  have hM := Lib.hid h
  clear h
  go_enter Try.func12, Try.ntmps12
  go_wp2_with (go_at_call 26; refine hd.mono ?_; rintro e w' ⟨rfl, rfl⟩)
  have hlow := hM.out.low
  obtain ⟨hap1, hap2, hap3⟩ := hM.out.apart
  have hmbw := hlow _ hM.out.own.2.2
  have hhead := hM.out.head
  have hst : ∀ v w1, Below w.drew.heap.size w.drew w1 → ∃ w2, (Instr.mapUpdate 52 (.map (some mb)) (.int .i64 (i : Int)) v).run Try.prog w1 = .ok () w2 ∧ MapAt intK w2 mb (aput intK.lt (i : Int) v l) ∧ w1.mapTurned w2 mb := by
    intro v w1 hb1
    have hm1 : MapAt intK w1 mb l := hM.out.map.kept (hb1.block mb hmbw)
    have hsm := hM.out.small
    have hrg := hi.2
    have hln := hM.out.len
    exact hm1.store_run intK Try.underlying52 (by unfold maxLen; omega) (i : Int) v (by simp [intK, Lit.wf, IntKind.min, IntKind.max, IntKind.signed, IntKind.bits]; omega)
  have hcB : ∀ w1 w2 : World, Below w.drew.heap.size w.drew w1 → w1.mapTurned w2 mb → w2.heap[d]? = w.heap[d]? := by
    intro w1 w2 h1 h2
    have h3 := h1.size
    have h4 : w.drew.heap.size = w.heap.size := rfl
    exact (h2.grown.block d (by omega) (by simp; omega)).trans (h1.block d (by omega))
  go_region_held3 (fun w' => w'.cell? ⟨d, 1, none⟩ = some (.map (some mb))) (first | exact hc1 | (rw [hb1.cell (p := ⟨d, 1, none⟩) hdw]; exact hc1) | (exact (World.cell?_of_block (w := w) (w' := w2) (a := ⟨d, 1, none⟩) (hcB w1 w2 hb1 hT2)).trans hc1)) ((first | (go_at_call 27; refine (bclone_any b off 128 cap bs w.drew (by omega) hl (by omega) hc hb).mono ?_; rintro e w1 ⟨v, rfl, hv, hb1⟩) | (obtain ⟨w2, hrun2, hM2, hT2⟩ := hst v w1 hb1; rw [hrun2]; go_simp)))
  have hd2 := hcB w1 w2 hb1 hT2
  rw [hhead] at hd2
  have hc2' := (World.cell?_of_block (w := w) (w' := w2) (a := ⟨d, 2, none⟩) (hcB w1 w2 hb1 hT2)).trans hc2
  have hf2 : w2.frozen? ⟨d, 2, none⟩ = false := by simp [World.frozen?, hd2]
  have e2 : IntKind.i64.wrap (M.writes + 1) = M.writes + 1 := IntWalk.i64_in _ (by have := hM.out.writes; omega)
  clear hst hcB hrun2
  go_wp2
  go_ret
  have hs1 := hb1.size
  have hs0 : w.drew.heap.size = w.heap.size := rfl
  rw [hs0] at hb1 hv hs1
  have hs2 : w2.heap.size = w1.heap.size := turned_size hT2
  have hk2 := Keeps.turned hT2
  have hh : ∀ b, F b → b ≠ mb → w2.heap[b]? = w.heap[b]? := fun b hb hm => (hk2.block b (by have := hlow b hb; omega) hm).trans (hb1.block b (hlow b hb))
  have hM := hM.out
  refine ⟨rfl, fun x => F x ∨ (w.heap.size ≤ x ∧ x < w2.heap.size), aput intK.lt (↑i) v l, ?_, fun x hx => hx.imp id (·.1), ?_⟩
  · constructor
    · exact heap_set_same hd2
    · rw [heap_set_other _ _ _ _ (Ne.symm hap1), hh _ hM.own.2.1 hap3]; exact hM.safe
    · exact hM.len
    · exact hM2.kept (heap_set_other _ _ _ _ (Ne.symm hap2))
    · exact hM.sorted.aput intLt _ _
    · intro k
      by_cases hk : k = (i : Int)
      · subst hk
        rw [aget_aput_same, aget_aput_same]
        refine hv.move fun b hb hbw => ⟨⟨.inr ⟨hb.1, by omega⟩, by omega, ?_, by omega⟩, ?_⟩
        · have := hlow _ hM.own.2.1; omega
        · rw [heap_set_other _ _ _ _ (show b ≠ d by omega), hk2.block b hbw (by omega)]
      · rw [aget_aput_other _ hk, aget_aput_other _ hk]
        refine (hM.rows k).imp fun x y h => h.move fun b hb hbw => ⟨⟨.inl hb.1, hb.2⟩, ?_⟩
        rw [heap_set_other _ _ _ _ (show b ≠ d from hb.2.1), hh b hb.1 hb.2.2.2]
    · intro q hq
      rcases (mem_ains _).1 hq with rfl | hq
      · have := hi.2; have := hM.len; simp only; omega
      · exact hM.range q (List.mem_filter.1 hq).1
    · exact ⟨.inl hM.own.1, .inl hM.own.2.1, .inl hM.own.2.2⟩
    · exact hM.apart
    · rw [size_set]; rintro x (hx | hx)
      · have := hlow x hx; omega
      · exact hx.2
    · have := hM.writes; simp only; omega
  · refine ⟨hk2.os.trans hb1.os, hk2.tape.trans hb1.tape, hk2.output.trans hb1.output, by rw [size_set]; omega, fun x hx hn => ?_⟩
    have h1 : x ≠ d := fun e => hn (e ▸ hM.own.1)
    have h2 : x ≠ mb := fun e => hn (e ▸ hM.own.2.2)
    rw [heap_set_other _ _ _ _ h1, hk2.block x (by omega) h2]
    exact hb1.block x hx
end Go.Proofs.Ytkdomgiabiedlaa
