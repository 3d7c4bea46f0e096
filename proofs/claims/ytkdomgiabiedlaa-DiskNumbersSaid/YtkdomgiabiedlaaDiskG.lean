/- disk: Image. -/
import Derived.Test.YtkdomgiabiedlaaDiskF
namespace Go.Proofs.Ytkdomgiabiedlaa
open Go.ChangeShapes Go.WideShapes Go.ChangeAt Go.RowKit
set_option linter.unusedVariables false

theorem DiskAt.below {F : Nat → Prop} {d sb mb B : Nat} {l : List (Int × Value)} {M : DiskM} {w w' : World} (h : DiskAt F w d sb mb l M) (hb : Below B w w') (hB : w.heap.size ≤ B) : DiskAt F w' d sb mb l M := by
  have hk : ∀ x, F x → w'.heap[x]? = w.heap[x]? := fun x hx => hb.block x (by have := h.low x hx; omega)
  exact ⟨(hk _ h.own.1).trans h.head, (hk _ h.own.2.1).trans h.safe, h.len, h.map.kept (hk _ h.own.2.2), h.sorted, fun k => (h.rows k).imp fun x y hr => hr.move fun b hb' _ => ⟨hb', hk _ hb'.1⟩, h.range, h.own, h.apart, fun x hx => by have := h.low x hx; have := hb.size; omega, h.writes⟩

theorem intK_val (x : Int) : intK.val x = .int .i64 x := rfl
def imgM (M : DiskM) : List UInt8 := mix (M.safe.length / 128) (fun i => readOf M i)
/-- A new row of bytes. -/
def NewRow (w : World) (bs : List UInt8) (e : Ending) (w' : World) : Prop :=
  ∃ v, e = .returned v ∧ RowV (fun x => w.heap.size ≤ x ∧ x < w'.heap.size) w' bs.length v bs ∧ Below w.heap.size w w'
/-- While Image runs. -/
def ImgRel (w : World) (g cap mb r : Nat) (l : List (Int × Value)) (M : DiskM) (wr : World) : Prop :=
  ∃ (left : Int → Bool) (cnt : Nat) (X : List Value), RangeAt intK wr mb r l left cnt ∧ Below w.heap.size w wr ∧ X.length + M.safe.length = cap ∧
    wr.heap[g]? = some (.cells ((mix (M.safe.length / 128) (fun i => if left i then rowsOf M.safe i else readOf M i)).map bv ++ X).toArray 5 (0, 0))

set_option maxHeartbeats 1000000 in
theorem dimage_any {F : Nat → Prop} {d sb mb : Nat} {l : List (Int × Value)} {M : DiskM} (w : World) (h : DiskAt F w d sb mb l M) :
    Calls Try.prog 22 #[.pointer (some ⟨d, 0, none⟩)] w (NewRow w (imgM M)) := by
  obtain ⟨hc0, hc1, hc2⟩ := head_cells h
  have hlen := h.len
  have hd0 := h.low _ h.own.1
  have hsb0 := h.low _ h.own.2.1
  have hmb0 := h.low _ h.own.2.2
  have hsafe := Lib.hid h.safe
  have hmap := h.map
  have hM := Lib.hid h
  clear h
  have hcl := bclone_any sb 0 M.safe.length M.safe.length M.safe w (by omega) rfl (by omega) (by intro j u hu; rw [add_plain]; simp only [World.cell?, hsafe.out, Nat.zero_add]; simpa using hu) hsb0
  go_enter Try.func22, Try.ntmps22
  go_wp2_with fail
  (with_reducible refine hcl.mono ?_)
  rintro e w1 ⟨v, rfl, hv, hB1⟩
  obtain ⟨_, g, cap, cur, rfl, hg, hcur, htk, hcap1, hcap2, hcs⟩ := hv
  have hmap1 := hmap.kept (hB1.block mb hmb0)
  obtain ⟨hcc, hff⟩ := bcell hB1
  have hcd1 : w1.cell? ⟨d, 1, none⟩ = some (.map (some mb)) := by rw [hcc _ _ hd0]; exact hc1
  have HCC := Lib.hid hcc
  have HTK := Lib.hid htk
  have HCUR := Lib.hid hcur
  have HCS := Lib.hid hcs
  clear hcc hff htk hcur hc0 hc1 hc2 hcs
  go_wp2_with (at_range; refine wpList_range intK rfl _ 52 22 rfl Try.underlying52 rfl hmap1 ?_; intro w0 hR0 hB0 hs0)
  go_frame
  go_loopw [4, 5] (fun _ _ wr => ImgRel w g cap mb w1.heap.size l M wr) (fun _ _ wr => wr.rangeLeft mb w1.heap.size)
  case atStart =>
    have h := hM.out
    refine ⟨_, _, cur.toList.drop M.safe.length, hR0, hB1.trans (hB0.mono hB1.size), by simp; rw [HCS.out]; omega, ?_⟩
    rw [hB0.block _ hg.2, HCUR.out, mix_congr (g := rowsOf M.safe), mix_rowsOf (by omega)]
    · rw [← HTK.out, List.take_append_drop]
    intro i hi
    by_cases hg : (aget (i : Int) l).isSome = true
    · rw [if_pos hg]
    · rw [if_neg hg]
      have h1 : aget (i : Int) l = none := by simpa using hg
      have h2 := h.rows (i : Int)
      rw [h1] at h2
      cases h3 : aget (i : Int) M.dirty with
      | none => simp [readOf, h3]
      | some y => rw [h3] at h2; exact h2.elim
  case round =>
    obtain ⟨left, cnt, X, hR, hB, hX, hsb⟩ := hrel
    have hap := hM.out.apart
    have hlow := hM.out.low
    have hown := hM.out.own
    have HS := Lib.hid hsb
    clear hsb
    go_wp2_with (first | (at_next; refine wpList_next intK rfl _ rfl rfl hR ?_ ?_))
    · intro hdone
      have HD := Lib.hid hdone
      clear hdone
      go_wp2
      go_ret
      have h := hM.out
      have hml : (imgM M).length = M.safe.length := by
        unfold imgM
        rw [mix_len (fun i hi => readOf_len h hi)]
        omega
      have hgw : g < wr.heap.size := (Array.getElem?_eq_some_iff.1 HS.out).1
      refine ⟨.slice (some ⟨g, 0, none⟩) M.safe.length cap, rfl, ⟨rfl, g, cap, _, by rw [hml], ⟨hg.1, hgw⟩, HS.out, ?_, by omega, hcap2, ?_⟩, hB⟩
      · rw [mix_congr (g := fun i => readOf M i) (fun i _ => by simp [HD.out])]
        show List.take _ ((imgM M).map bv ++ X) = _
        rw [List.take_append_of_le_length (by simp), List.take_of_length_le (by simp)]
      · rw [mix_congr (g := fun i => readOf M i) (fun i _ => by simp [HD.out])]
        show ((imgM M).map bv ++ X).length = _
        simp
        omega
    · intro k v w3 cnt1 hok hleft hg2 hR1 hlt hK1 hs1 hen
      have h := hM.out
      obtain ⟨row, h1, hl, b, cap2, cur2, rfl, hF, hcur, htk, hc1', hc2', hcs⟩ := relO_some' (h.rows k) hg2
      have hrg := h.range _ (aget_mem h1)
      simp only at hrg
      obtain ⟨i, rfl⟩ : ∃ i : Nat, k = i := ⟨k.toNat, by omega⟩
      have hsz := hB.size
      have hb0 := hlow _ hF.1
      have hgw : g < wr.heap.size := (Array.getElem?_eq_some_iff.1 HS.out).1
      have hrw := hR.lt
      have hsb1 := (hK1.block g (by omega) (by omega)).trans HS.out
      have hcur1 := ((hK1.block b (by omega) (by have := hB1.size; omega)).trans (hB.block b hb0)).trans hcur
      have hlr : ∀ i, i < M.safe.length / 128 → ((fun i : Nat => if left i then rowsOf M.safe i else readOf M i) i).length = 128 := by
        intro i hi
        simp only
        split
        · exact rowsOf_len (n := M.safe.length / 128) (by omega) hi
        · exact readOf_len h hi
      have hml := mix_len hlr
      have hrow : ∀ j u, (row.map bv)[j]? = some u → w3.cell? ((⟨b, 0, none⟩ : Addr).add j) = some u := by
        intro j u hu
        rw [add_plain, ← htk] at *
        simp only [World.cell?, hcur1, Nat.zero_add]
        rw [List.getElem?_take] at hu
        split at hu
        · simpa using hu
        · simp at hu
      have hn1 : row.length = Nat.min 128 (M.safe.length - i * 128) := by rw [hl]; show 128 = min _ _; omega
      have hn2 : i * 128 + row.length ≤ ((mix (M.safe.length / 128) (fun i => if left i then rowsOf M.safe i else readOf M i)).map bv ++ X).length := by rw [List.length_append, List.length_map, hml]; omega
      have hn3 : i * 128 + row.length ≤ ((mix (M.safe.length / 128) (fun i => if left i then rowsOf M.safe i else readOf M i)).map bv).length := by rw [List.length_map, hml]; omega
      have e1 : IntKind.i64.wrap ((i : Int) * 128) = (i : Int) * 128 := IntWalk.i64_in _ (by omega)
      have HN1 := Lib.hid hn1
      have HN2 := Lib.hid hn2
      have HN3 := Lib.hid hn3
      clear hn1 hn2 hn3
      have HX := Lib.hid hsb1
      have HT := Lib.hid htk
      have HC := Lib.hid hcur1
      have HG := Lib.hid hg2
      have H1 := Lib.hid h1
      have HL := Lib.hid hl
      have HL2 := Lib.hid hleft
      have HXX := Lib.hid hX
      have hcc2 : i * 128 < cap := by omega
      clear hsb1 htk hcur1 hg2 h1 hl hcur hleft hcs h hX
      simp only [intK_val] at hen ⊢
      go_wp2_with (first | (with_reducible refine wpList_copy_v rfl _ _ 22 22 rfl 5 Try.underlying22 Try.size8 (some ⟨b, 0, none⟩) g (i * 128) (M.safe.length - i * 128) (cap - i * 128) 128 cap2 rfl rfl _ 5 HX.out row HN1.out (fun _ => ⟨_, rfl, hrow⟩) HN2.out ?_; intro w2 HS2 hK2 hs2; go_frame))
      go_roundw
      case rel =>
        refine ⟨_, cnt1, X, hR1.kept (hK2.block mb hR1.lt.1 (by omega)) (hK2.block w1.heap.size hR1.lt.2.1 (by omega)), ?_, HXX.out, ?_⟩
        · exact ⟨hK2.os.trans (hK1.os.trans hB.os), hK2.tape.trans (hK1.tape.trans hB.tape), hK2.output.trans (hK1.output.trans hB.output), by omega, fun x hx =>
            (hK2.block x (by omega) (by omega)).trans ((hK1.block x (by omega) (by omega)).trans (hB.block x hx))⟩
        · rw [HS2.out, splice_append _ _ _ _ (by rw [show (row.map bv).length = row.length by simp]; exact HN3.out), splice_map, splice_mix (by omega) hlr (by rw [HL.out]; omega), mix_congr]
          intro j hj
          by_cases hji : j = i
          · subst hji
            simp only [if_pos, decide_true, Bool.not_true, Bool.and_false]
            rw [List.drop_eq_nil_of_le (by rw [HL.out]; exact Nat.le_of_eq (hlr j hj))]
            simp [readOf, H1.out]
          · simp only [if_neg hji]
            have : decide ((j : Int) = (i : Int)) = false := by simp; omega
            rw [this]
            simp
      case measure =>
        have hR2 : RangeAt intK w2 mb w1.heap.size l _ cnt1 := hR1.kept (hK2.block mb hR1.lt.1 (by omega)) (hK2.block w1.heap.size hR1.lt.2.1 (by omega))
        rw [hR2.measure, hR.measure]
        exact hlt
end Go.Proofs.Ytkdomgiabiedlaa
