/- disk: sectors as rows; Flush. -/
import Derived.Test.YtkdomgiabiedlaaDiskE
namespace Go.Proofs.Ytkdomgiabiedlaa
open Go.ChangeShapes Go.WideShapes Go.ChangeAt Go.RowKit
set_option linter.unusedVariables false

/-- So many rows, one behind the other. -/
def mix (n : Nat) (f : Nat → List UInt8) : List UInt8 := ((List.range n).map f).flatten
theorem flatten_len {f : Nat → List UInt8} : ∀ (l : List Nat), (∀ i ∈ l, (f i).length = 128) → (l.map f).flatten.length = l.length * 128
  | [], _ => rfl
  | x :: r, h => by
    have := flatten_len r (fun i hi => h i (by simp [hi]))
    have hx := h x (by simp)
    simp only [List.map_cons, List.flatten_cons, List.length_append, List.length_cons]
    omega
theorem mix_len {n : Nat} {f : Nat → List UInt8} (h : ∀ i, i < n → (f i).length = 128) : (mix n f).length = n * 128 := by
  have := flatten_len (f := f) (List.range n) (fun i hi => h i (by simpa using hi))
  simpa [mix] using this
theorem range_split {n i : Nat} (h : i < n) : List.range n = List.range i ++ i :: List.range' (i + 1) (n - i - 1) := by
  rw [List.range_eq_range', List.range_eq_range']
  rw [show n = i + (1 + (n - i - 1)) by omega, ← List.range'_append_1, ← List.range'_append_1]
  simp
theorem mix_split {n i : Nat} (f : Nat → List UInt8) (h : i < n) : mix n f = ((List.range i).map f).flatten ++ (f i ++ ((List.range' (i + 1) (n - i - 1)).map f).flatten) := by
  unfold mix
  rw [range_split h]
  simp
theorem rowsOf_mix {n i : Nat} {f : Nat → List UInt8} (h : i < n) (hf : ∀ i, i < n → (f i).length = 128) : rowsOf (mix n f) i = f i := by
  have hl := flatten_len (f := f) (List.range i) (fun j hj => hf j (by have := List.mem_range.1 hj; omega))
  rw [List.length_range] at hl
  unfold rowsOf
  rw [mix_split f h, ← hl, List.drop_left, List.take_append_of_le_length (by rw [hf i h]; omega), List.take_of_length_le (by rw [hf i h]; omega)]
theorem mix_congr {n : Nat} {f g : Nat → List UInt8} (h : ∀ i, i < n → f i = g i) : mix n f = mix n g := by
  unfold mix
  rw [List.map_congr_left (fun i hi => h i (by simpa using hi))]
theorem mix_rowsOf : ∀ {n : Nat} {s : List UInt8}, s.length = n * 128 → mix n (rowsOf s) = s
  | 0, s, h => by
    have : s = [] := List.eq_nil_of_length_eq_zero (by omega)
    subst this
    rfl
  | n + 1, s, h => by
    have h1 : mix (n + 1) (rowsOf s) = mix n (rowsOf (s.take (n * 128))) ++ rowsOf s n := by
      unfold mix
      rw [List.range_succ, List.map_append, List.flatten_append]
      simp only [List.map_cons, List.map_nil, List.flatten_cons, List.flatten_nil, List.append_nil]
      rw [List.map_congr_left]
      intro i hi
      have := List.mem_range.1 hi
      unfold rowsOf
      rw [List.drop_take, List.take_take, Nat.min_eq_left (by omega)]
    rw [h1, mix_rowsOf (by simp; omega)]
    unfold rowsOf
    rw [List.take_of_length_le (l := s.drop (n * 128)) (by simp; omega), List.take_append_drop]
theorem rowsOf_len {s : List UInt8} {i n : Nat} (h : s.length = n * 128) (hi : i < n) : (rowsOf s i).length = 128 := by
  unfold rowsOf
  simp
  omega
theorem splice_mix {n i : Nat} {f : Nat → List UInt8} {r : List UInt8} (h : i < n) (hf : ∀ i, i < n → (f i).length = 128) (hr : r.length ≤ 128) :
    splice (mix n f) (i * 128) r = mix n (fun j => if j = i then r ++ (f i).drop r.length else f j) := by
  have hl := flatten_len (f := f) (List.range i) (fun j hj => hf j (by have := List.mem_range.1 hj; omega))
  rw [List.length_range] at hl
  rw [mix_split f h, mix_split _ h]
  have e1 : (List.range i).map (fun j => if j = i then r ++ (f i).drop r.length else f j) = (List.range i).map f := by
    refine List.map_congr_left fun j hj => ?_
    have := List.mem_range.1 hj
    rw [if_neg (by omega)]
  have e2 : (List.range' (i + 1) (n - i - 1)).map (fun j => if j = i then r ++ (f i).drop r.length else f j) = (List.range' (i + 1) (n - i - 1)).map f := by
    refine List.map_congr_left fun j hj => ?_
    have := List.mem_range'_1.1 hj
    rw [if_neg (by omega)]
  rw [e1, e2, if_pos rfl]
  unfold splice
  rw [← hl, List.take_left, Nat.add_comm, ← List.drop_drop, List.drop_drop, Nat.add_comm, ← List.drop_drop, List.drop_left, List.drop_append_of_le_length (by rw [hf i h]; omega)]
  simp

/-- at, of what it reads alone. -/
theorem dat_c {d sb N : Nat} (i : Nat) (hi : i * 128 + 128 ≤ N) (hN : N ≤ 524288) (w : World) (hc0 : w.cell? ⟨d, 0, none⟩ = some (.slice (some ⟨sb, 0, none⟩) N N)) :
    Calls Try.prog 28 #[.pointer (some ⟨d, 0, none⟩), .int .i64 i] w fun e w' => e = .returned (.slice (some ⟨sb, i * 128, none⟩) 128 (N - i * 128)) ∧ w = w' := by
  have e1 : IntKind.i64.wrap ((i : Int) * 128) = (i : Int) * 128 := IntWalk.i64_in _ (by omega)
  have e2 : IntKind.i64.wrap ((i : Int) + 1) = (i : Int) + 1 := IntWalk.i64_in _ (by omega)
  have e3 : IntKind.i64.wrap (((i : Int) + 1) * 128) = ((i : Int) + 1) * 128 := IntWalk.i64_in _ (by omega)
  go_enter Try.func28, Try.ntmps28
  go_wp2
  go_ret
  refine ⟨?_, rfl⟩
  show Ending.returned (Value.slice (some ⟨sb, i * 128, none⟩) ((i + 1) * 128 - i * 128) (N - i * 128)) = _
  rw [show (i + 1) * 128 - i * 128 = 128 by omega]

def flushM (M : DiskM) : DiskM := ⟨mix (M.safe.length / 128) (fun i => readOf M i), [], M.writes⟩
def FlushPost (F : Nat → Prop) (w : World) (d sb mb : Nat) (M : DiskM) (e : Ending) (w' : World) : Prop :=
  e = .returned (.tuple #[]) ∧ DiskAt F w' d sb mb [] M ∧ Keeps F w w'
/-- While Flush runs. -/
def FlushRel (w : World) (sb mb r : Nat) (l : List (Int × Value)) (M : DiskM) (wr : World) : Prop :=
  ∃ (left : Int → Bool) (cnt : Nat), RangeAt intK wr mb r l left cnt ∧ Keeps (fun x => x = sb) w wr ∧
    wr.heap[sb]? = some (.cells ((mix (M.safe.length / 128) (fun i => if left i then rowsOf M.safe i else readOf M i)).map bv).toArray 5 (0, 0))

/-- Behind a clear: nothing is dirty. -/
theorem DiskAt.cleared {F : Nat → Prop} {d sb mb : Nat} {l : List (Int × Value)} {M : DiskM} {w w' : World} {S' : List UInt8} (h : DiskAt F w d sb mb l M) (hs : w.heap.size ≤ w'.heap.size)
    (hd : w'.heap[d]? = w.heap[d]?) (hb : w'.heap[sb]? = some (.cells (S'.map bv).toArray 5 (0, 0))) (hl : S'.length = M.safe.length) (hm : MapAt intK w' mb []) : DiskAt F w' d sb mb [] ⟨S', [], M.writes⟩ := by
  constructor
  · rw [hd, h.head]; simp only [hl]
  · exact hb
  · simp only [hl]; exact h.len
  · exact hm
  · simp [ASorted]
  · intro k; simp [aget, RelO]
  · simp
  · exact h.own
  · exact h.apart
  · intro x hx; have := h.low x hx; omega
  · exact h.writes
theorem readOf_len {F : Nat → Prop} {d sb mb : Nat} {l : List (Int × Value)} {M : DiskM} {w : World} (h : DiskAt F w d sb mb l M) {i : Nat} (hi : i < M.safe.length / 128) : (readOf M i).length = 128 := by
  unfold readOf
  cases h1 : aget (i : Int) M.dirty with
  | none => have := h.len; exact rowsOf_len (n := M.safe.length / 128) (by omega) hi
  | some r =>
    obtain ⟨v, _, hv⟩ := relO_some (h.rows i) h1
    exact hv.1

set_option maxHeartbeats 1000000 in
theorem dflush_any {F : Nat → Prop} {d sb mb : Nat} {l : List (Int × Value)} {M : DiskM} (w : World) (h : DiskAt F w d sb mb l M) :
    Calls Try.prog 13 #[.pointer (some ⟨d, 0, none⟩)] w (FlushPost F w d sb mb (flushM M)) := by
  obtain ⟨hc0, hc1, hc2⟩ := head_cells h
  have hmap := h.map
  have hM := Lib.hid h
  clear h
  go_enter Try.func13, Try.ntmps13
  go_wp2_with (at_range; refine wpList_range intK rfl _ 52 22 rfl Try.underlying52 rfl hmap ?_; intro w0 hR0 hB0 hs0)
  go_frame
  go_loopw [2, 3] (fun _ _ wr => FlushRel w sb mb w.heap.size l M wr) (fun _ _ wr => wr.rangeLeft mb w.heap.size)
  case atStart =>
    have h := hM.out
    have hl := h.len
    refine ⟨_, _, hR0, (Keeps.below hB0).mono (fun x hx hf => by omega), ?_⟩
    rw [hB0.block _ (h.low _ h.own.2.1), h.safe, mix_congr (g := rowsOf M.safe), mix_rowsOf (by omega)]
    intro i hi
    by_cases hg : (aget (i : Int) l).isSome = true
    · rw [if_pos hg]
    · rw [if_neg hg]
      have h1 : aget (i : Int) l = none := by simpa using hg
      have h2 := h.rows (i : Int)
      rw [h1] at h2
      cases h3 : aget (i : Int) M.dirty with
      | none => simp [readOf, h3]
      | some y => rw [h3] at h2; exact h2.elim
  case round =>
    obtain ⟨left, cnt, hR, hK, hsb⟩ := hrel
    have hap := hM.out.apart
    have hlow := hM.out.low
    have hown := hM.out.own
    have hdr : wr.heap[d]? = w.heap[d]? := hK.block d (hlow _ hown.1) hap.1
    rw [hM.out.head] at hdr
    have HS := Lib.hid hsb
    clear hsb
    go_wp2_with (first | (at_next; refine wpList_next intK rfl _ rfl rfl hR ?_ ?_))
    · intro hdone
      have hdc : wr.cell? ⟨d, 1, none⟩ = some (.map (some mb)) := by simp [World.cell?, hdr]
      have HD := Lib.hid hdone
      clear hdone
      have HDR := Lib.hid hdr
      clear hdr
      go_wp2_with (with_reducible refine wpList_clear intK rfl _ 52 22 rfl Try.underlying52 rfl hR.map ?_; intro w2 hM2 hT2)
      go_end0
      have h := hM.out
      have hk2 := Keeps.turned hT2
      have hs2 := turned_size hT2
      have hs1 := hK.size
      refine ⟨rfl, ?_, ?_⟩
      · refine h.cleared (by omega) ?_ ?_ ?_ hM2
        · rw [hk2.block d (by have := hlow _ hown.1; omega) hap.2.1, HDR.out, h.head]
        · rw [hk2.block sb (by have := hlow _ hown.2.1; omega) hap.2.2, HS.out, mix_congr (g := fun i => readOf M i) (fun i _ => by simp [HD.out])]
        · rw [mix_len (fun i hi => readOf_len h hi)]; have := h.len; omega
      · refine ⟨hk2.os.trans hK.os, hk2.tape.trans hK.tape, hk2.output.trans hK.output, by omega, fun x hx hn => ?_⟩
        rw [hk2.block x (by omega) (fun e => hn (e ▸ hown.2.2))]
        exact hK.block x hx (fun e => hn (e ▸ hown.2.1))
    · intro k v w1 cnt1 hok hleft hg hR1 hlt hK1 hs1 hen
      have h := hM.out
      obtain ⟨row, h1, hl, b, cap, cur, rfl, hF, hcur, htk, hc1', hc2', hcs⟩ := relO_some' (h.rows k) hg
      have hrg := h.range _ (aget_mem h1)
      have hlen := h.len
      simp only at hrg
      obtain ⟨i, rfl⟩ : ∃ i : Nat, k = i := ⟨k.toNat, by omega⟩
      have hsz := hK.size
      have hb0 := hlow _ hF.1
      have hd0 := hlow _ hown.1
      have hsb0 := hlow _ hown.2.1
      have hdr1 : w1.heap[d]? = some _ := (hK1.block d (by omega) (by omega)).trans hdr
      have hcell1 : w1.cell? ⟨d, 0, none⟩ = some (.slice (some ⟨sb, 0, none⟩) M.safe.length M.safe.length) := by simp [World.cell?, hdr1]
      have hsb1 := (hK1.block sb (by omega) (by omega)).trans HS.out
      have hcur1 := ((hK1.block b (by omega) (by omega)).trans (hK.block b hb0 hF.2.2.1)).trans hcur
      have hlr : ∀ i, i < M.safe.length / 128 → ((fun i : Nat => if left i then rowsOf M.safe i else readOf M i) i).length = 128 := by
        intro i hi
        simp only
        split
        · exact rowsOf_len (n := M.safe.length / 128) (by omega) hi
        · exact readOf_len h hi
      have hml := mix_len hlr
      have hat := dat_c i (by omega) (by omega) w1 hcell1
      have hrow : ∀ j u, (row.map bv)[j]? = some u → w1.cell? ((⟨b, 0, none⟩ : Addr).add j) = some u := by
        intro j u hu
        rw [add_plain, ← htk] at *
        simp only [World.cell?, hcur1, Nat.zero_add]
        rw [List.getElem?_take] at hu
        split at hu
        · simpa using hu
        · simp at hu
      have hn1 : row.length = Nat.min 128 128 := by rw [hl]; rfl
      have hn2 : i * 128 + row.length ≤ ((mix (M.safe.length / 128) (fun i => if left i then rowsOf M.safe i else readOf M i)).map bv).length := by rw [List.length_map, hml]; omega
      have HN1 := Lib.hid hn1
      have HN2 := Lib.hid hn2
      clear hn1 hn2
      have HX := Lib.hid hsb1
      have HH := Lib.hid hdr1
      have HT := Lib.hid htk
      have HC := Lib.hid hcur1
      have HG := Lib.hid hg
      have H1 := Lib.hid h1
      have HL := Lib.hid hl
      have HL2 := Lib.hid hleft
      clear hsb1 hdr1 htk hcur1 hg h1 hl hcur hdr hleft hcs h hcell1
      go_wp2_with (first | (go_at_call 28; refine hat.mono ?_; rintro e w' ⟨rfl, rfl⟩) | (with_reducible refine wpList_copy_v rfl _ _ 22 22 rfl 5 Try.underlying22 Try.size8 (some ⟨b, 0, none⟩) sb (i * 128) 128 (M.safe.length - i * 128) 128 cap rfl rfl _ 5 HX.out row HN1.out (fun _ => ⟨_, rfl, hrow⟩) HN2.out ?_; intro w2 HS2 hK2 hs2; go_frame))
      go_roundw
      case rel =>
        refine ⟨_, cnt1, hR1.kept (hK2.block mb hR1.lt.1 (Ne.symm hap.2.2)) (hK2.block w.heap.size hR1.lt.2.1 (by omega)), ?_, ?_⟩
        · exact ⟨hK2.os.trans (hK1.os.trans hK.os), hK2.tape.trans (hK1.tape.trans hK.tape), hK2.output.trans (hK1.output.trans hK.output), by omega, fun x hx hn =>
            (hK2.block x (by omega) hn).trans ((hK1.block x (by omega) (by omega)).trans (hK.block x hx hn))⟩
        · rw [HS2.out, splice_map, splice_mix (by omega) hlr (by rw [HL.out]; omega), mix_congr]
          intro j hj
          by_cases hji : j = i
          · subst hji
            simp only [if_pos, decide_true, Bool.not_true, Bool.and_false]
            rw [List.drop_eq_nil_of_le (by rw [HL.out]; exact Nat.le_of_eq (hlr j hj))]
            simp [readOf, H1.out]
          · simp only [if_neg hji]
            have : decide ((j : Int) = (i : Int)) = false := by simp; omega
            rw [this]
            simp
      case measure =>
        have hR2 : RangeAt intK w2 mb w.heap.size l _ cnt1 := hR1.kept (hK2.block mb hR1.lt.1 (Ne.symm hap.2.2)) (hK2.block w.heap.size hR1.lt.2.1 (by omega))
        rw [hR2.measure, hR.measure]
        exact hlt
end Go.Proofs.Ytkdomgiabiedlaa
