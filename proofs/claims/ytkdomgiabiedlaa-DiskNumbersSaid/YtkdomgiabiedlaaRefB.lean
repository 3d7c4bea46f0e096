/- The reference's disk: Write, Flush. -/
import Derived.Test.YtkdomgiabiedlaaRefA
import Derived.Test.YtkdomgiabiedlaaAppend
namespace Go.Proofs.Ytkdomgiabiedlaa
open Go.ChangeShapes Go.WideShapes Go.ChangeAt Go.RowKit
set_option linter.unusedVariables false
set_option linter.unusedSimpArgs false

def RefTurned (F : Nat → Prop) (w : World) (r : Nat) (R : RefM) (v : Value) (e : Ending) (w' : World) : Prop :=
  e = .returned v ∧ ∃ F' sb nb tb, RefAt F' w' r sb nb tb R ∧ (∀ x, F' x → F x ∨ w.heap.size ≤ x) ∧ Keeps F w w'
theorem ref_after {F : Nat → Prop} {w w2 : World} {r sb nb tb : Nat} {R : RefM} {j : Nat} (h : RefAt F w r sb nb tb R) (hj : j < 64) (hK : Keeps (fun x => x = nb) w w2) :
    w2.cell? ⟨r, 2, none⟩ = some (.slice (some ⟨tb, 0, none⟩) 64 64) ∧ w2.cell? ⟨r, 3, none⟩ = some (.int .i64 R.writes) ∧ (∃ u, w2.cell? ⟨tb, j, none⟩ = some u) ∧ w2.frozen? ⟨tb, j, none⟩ = false ∧ w2.frozen? ⟨r, 3, none⟩ = false ∧
      Hid (w2.heap[r]? = w.heap[r]?) ∧ Hid (w2.heap[tb]? = w.heap[tb]?) := by
  obtain ⟨hc0, hc1, hc2, hc3⟩ := ref_cells h
  obtain ⟨p1, p2, p3, p4, p5, p6⟩ := h.apart
  have hr := hK.block r (h.low _ h.own.1) p2
  have ht := hK.block tb (h.low _ h.own.2.2.2) (Ne.symm p6)
  have hr' := hr.trans h.head
  have ht' := ht.trans h.dirty
  refine ⟨(World.cell?_of_block (w := w) (w' := w2) (a := ⟨r, 2, none⟩) hr).trans hc2, (World.cell?_of_block (w := w) (w' := w2) (a := ⟨r, 3, none⟩) hr).trans hc3, ?_, by simp [World.frozen?, ht'], by simp [World.frozen?, hr'], hr, ht⟩
  have hlt : j < (R.dirty.map Value.bool).toArray.size := by simp [h.len.2.2, hj]
  exact ⟨_, by simp only [World.cell?, ht']; exact Array.getElem?_eq_getElem hlt⟩
def rwriteM (R : RefM) (i : Int) (bs : List UInt8) : RefM := if refSec i ∧ bs.length = 128 then ⟨R.safe, splice R.now (i.toNat * 128) bs, R.dirty.set i.toNat true, R.writes + 1⟩ else R
def rwriteE (i : Int) (bs : List UInt8) : Int := if refSec i ∧ bs.length = 128 then 0 else 1

set_option maxHeartbeats 1000000 in
theorem rwrite_any {F S : Nat → Prop} {r sb nb tb : Nat} {R : RefM} (i : Int) (a : Option Addr) (n cap : Nat) (bs : List UInt8) (hw : -9223372036854775808 ≤ R.writes ∧ R.writes < 4611686018427387904) (w : World) (hr : RowAt S w a n (bs.map bv)) (h : RefAt F w r sb nb tb R) :
    Calls Try.prog 32 #[.pointer (some ⟨r, 0, none⟩), .int .i64 i, .slice a n cap] w (RefTurned F w r (rwriteM R i bs) (.int .i64 (rwriteE i bs))) := by
  have hl : bs.length = n := by have := hr.length; simpa using this
  obtain ⟨hc0, hc1, hc2, hc3⟩ := ref_cells h
  by_cases hi : refSec i
  · obtain ⟨j, rfl⟩ : ∃ j : Nat, i = j := ⟨i.toNat, by have := hi.1; omega⟩
    have hj : j < 64 := by have := hi.2; omega
    have i0 : ¬ (j : Int) < 0 := by omega
    have i1 : decide ((64 : Int) ≤ (j : Int)) = false := by simp; omega
    by_cases hn : n = 128
    · subst hn
      have em : rwriteM R j bs = ⟨R.safe, splice R.now (j * 128) bs, R.dirty.set j true, R.writes + 1⟩ := if_pos ⟨hi, hl⟩
      have ee : rwriteE j bs = 0 := if_pos ⟨hi, hl⟩
      rw [em, ee]
      have e1 : IntKind.i64.wrap ((j : Int) * 128) = (j : Int) * 128 := IntWalk.i64_in _ (by omega)
      have e4 : IntKind.i64.wrap (R.writes + 1) = R.writes + 1 := IntWalk.i64_in _ (by omega)
      have hnm : bs.length = Nat.min 128 (8192 - j * 128) := by rw [hl]; show 128 = min _ _; omega
      have hfit : j * 128 + bs.length ≤ (R.now.map bv).length := by rw [List.length_map, h.len.2.1, hl]; omega
      have hpos : 0 < bs.length → ∃ ad, a = some ad ∧ ∀ k v, (bs.map bv)[k]? = some v → w.cell? (ad.add k) = some v := fun _ => by
        obtain ⟨b, off, rfl, _, _, _⟩ := hr.at_ (by omega)
        exact ⟨_, rfl, hr.cells⟩
      obtain ⟨hlr, hlsb, hlnb, hltb⟩ : r < w.heap.size ∧ sb < w.heap.size ∧ nb < w.heap.size ∧ tb < w.heap.size := ⟨h.low _ h.own.1, h.low _ h.own.2.1, h.low _ h.own.2.2.1, h.low _ h.own.2.2.2⟩
      obtain ⟨p1, p2, p3, p4, p5, p6⟩ := h.apart
      have hnow := Lib.hid h.now
      have HH := Lib.hid h
      have HNM := Lib.hid hnm
      have HF := Lib.hid hfit
      have HP := Lib.hid hpos
      have HL := Lib.hid hl
      have HI := Lib.hid hi
      clear h hnm hfit hpos hl hi em ee hr
      go_enter Try.func32, Try.ntmps32
      go_wp2_with (first | ((with_reducible refine wpList_copy_v rfl _ _ 22 22 rfl 5 Try.underlying22 Try.size8 a nb (j * 128) (8192 - j * 128) (8192 - j * 128) 128 cap rfl rfl _ 5 hnow.out bs HNM.out HP.out HF.out ?_); intro w2 HS2 hK2 hs2; obtain ⟨hr2, hr3, ⟨u, hcd⟩, hfd, hfr, hh2, hd2⟩ := ref_after HH.out hj hK2; clear hc2 hc3))
      go_ret
      have h := HH.out
      refine ⟨rfl, F, sb, nb, tb, ?_, fun x hx => .inl hx, ?_⟩
      · have hS2 := HS2.out
        rw [splice_map] at hS2
        have hsp : (splice R.now (j * 128) bs).length = 8192 := by rw [length_splice _ _ _ (by have := HF.out; rw [List.length_map] at this; exact this)]; exact h.len.2.1
        constructor
        · rw [heap_set_same ((heap_set_other w2 ⟨tb, j, none⟩ _ r p3).trans (hh2.out.trans h.head))]
          rfl
        · rw [heap_set_other _ _ _ _ (Ne.symm p1), heap_set_other _ _ _ _ p5, hK2.block sb hlsb p4]; exact h.safe
        · rw [heap_set_other _ _ _ _ (Ne.symm p2), heap_set_other _ _ _ _ p6]; exact hS2
        · rw [heap_set_other _ _ _ _ (Ne.symm p3), heap_set_same (hd2.out.trans h.dirty), List.map_set]
          simp
        · exact ⟨h.len.1, hsp, by simpa using h.len.2.2⟩
        · exact h.own
        · exact h.apart
        · intro x hx
          rw [size_set, size_set, hs2]
          exact h.low x hx
      · refine ⟨hK2.os, hK2.tape, hK2.output, by rw [size_set, size_set]; exact hK2.size, fun x hx hn => ?_⟩
        have n1 : x ≠ r := fun e => hn (e ▸ h.own.1)
        have n2 : x ≠ nb := fun e => hn (e ▸ h.own.2.2.1)
        have n3 : x ≠ tb := fun e => hn (e ▸ h.own.2.2.2)
        rw [heap_set_other _ _ _ _ n1, heap_set_other _ _ _ _ n3]
        exact hK2.block x hx n2
    · have em : rwriteM R j bs = R := if_neg (fun h => hn (by omega))
      have ee : rwriteE j bs = 1 := if_neg (fun h => hn (by omega))
      rw [em, ee]
      have e1 : ((n : Int) != 128) = true := by simp; omega
      have HH := Lib.hid h
      clear h em ee hr hl hi
      go_enter Try.func32, Try.ntmps32
      go_wp2
      go_ret
      exact ⟨rfl, F, sb, nb, tb, HH.out, fun x hx => .inl hx, Keeps.refl _ _⟩
  · have em : rwriteM R i bs = R := if_neg (fun h => hi h.1)
    have ee : rwriteE i bs = 1 := if_neg (fun h => hi h.1)
    rw [em, ee]
    have HH := Lib.hid h
    clear h em ee hr hl
    by_cases h0 : i < 0
    · clear hi
      go_enter Try.func32, Try.ntmps32
      go_wp2
      go_ret
      exact ⟨rfl, F, sb, nb, tb, HH.out, fun x hx => .inl hx, Keeps.refl _ _⟩
    · have i1 : (64 : Int) ≤ i := by unfold refSec at hi; omega
      clear hi
      go_enter Try.func32, Try.ntmps32
      go_wp2
      go_ret
      exact ⟨rfl, F, sb, nb, tb, HH.out, fun x hx => .inl hx, Keeps.refl _ _⟩

theorem infoBool : (Try.prog.info? 4).map (fun i => (i.zero, i.size, i.bytes)) = some (some (.bool false), 1, 1) := by kernel_rfl
/-- A new list of 64 truths. -/
theorem made_bools {w w2 : World} (hown : w2.ownsRow w.heap.size 4 1 (.slice (some ⟨w.heap.size, 0, none⟩) 64 64) 64 (madeCells (Value.bool false).cells (64 * 1)).toList) (hg : w.grownBy w2 none) :
    Hid (w2.heap[w.heap.size]? = some (.cells ((List.replicate 64 false).map Value.bool).toArray 4 (0, 0))) ∧ Below w.heap.size w w2 := by
  have hB : Below w.heap.size w w2 := ⟨hg.os, hg.tape, hg.output, hg.size, fun i hi => hg.block i hi (by simp)⟩
  refine ⟨?_, hB⟩
  rw [show Value.cells (.bool false) = #[.bool false] from rfl, toList_madeCells_one] at hown
  obtain ⟨_, hown⟩ := hown
  rcases hown with ⟨hx, _⟩ | ⟨g, cap, cur, hx, _, hcur, _, _, hcs, htake⟩
  · cases hx
  · simp only [Value.slice.injEq, Option.some.injEq, Addr.mk.injEq, and_true, true_and] at hx
    obtain ⟨rfl, rfl⟩ := hx
    show _ = _
    rw [hcur]
    congr 2
    rw [List.take_of_length_le (by simp; omega)] at htake
    apply Array.toList_inj.1
    rw [htake]
    simp
def rflushM (R : RefM) : RefM := ⟨R.now, R.now, List.replicate 64 false, R.writes⟩
set_option maxHeartbeats 1000000 in
theorem rflush_any {F : Nat → Prop} {r sb nb tb : Nat} {R : RefM} (w : World) (h : RefAt F w r sb nb tb R) :
    Calls Try.prog 34 #[.pointer (some ⟨r, 0, none⟩)] w (RefTurned F w r (rflushM R) (.tuple #[])) := by
  obtain ⟨i0, hi, hz0, hz1, hz2⟩ := info_parts infoBool
  obtain ⟨hc0, hc1, hc2, hc3⟩ := ref_cells h
  obtain ⟨hlr, hlsb, hlnb, hltb⟩ : r < w.heap.size ∧ sb < w.heap.size ∧ nb < w.heap.size ∧ tb < w.heap.size := ⟨h.low _ h.own.1, h.low _ h.own.2.1, h.low _ h.own.2.2.1, h.low _ h.own.2.2.2⟩
  obtain ⟨p1, p2, p3, p4, p5, p6⟩ := h.apart
  have HH := Lib.hid h
  have hnm : R.now.length = Nat.min 8192 8192 := by rw [h.len.2.1]; rfl
  have hfit : 0 + R.now.length ≤ (R.safe.map bv).length := by rw [List.length_map, h.len.1, h.len.2.1]; omega
  have hpos : 0 < R.now.length → ∃ ad, some (⟨nb, 0, none⟩ : Addr) = some ad ∧ ∀ k v, (R.now.map bv)[k]? = some v → w.drew.cell? (ad.add k) = some v := fun _ => ⟨_, rfl, fun k v hk => by
    rw [add_plain]
    show w.cell? _ = _
    simp only [World.cell?, h.now, Nat.zero_add]
    simpa using hk⟩
  have hsafe : w.drew.heap[sb]? = some (.cells (R.safe.map bv).toArray 5 (0, 0)) := h.safe
  have HS := Lib.hid hsafe
  have HNM := Lib.hid hnm
  have HF := Lib.hid hfit
  have HP := Lib.hid hpos
  clear h hsafe hnm hfit hpos
  go_enter Try.func34, Try.ntmps34
  go_wp2_with fail
  go_region_held3 (fun w' => w'.cell? ⟨r, 0, none⟩ = some (.slice (some ⟨sb, 0, none⟩) 8192 8192) ∧ w'.cell? ⟨r, 1, none⟩ = some (.slice (some ⟨nb, 0, none⟩) 8192 8192)) ((first | exact ⟨hc0, hc1⟩ | exact ⟨(World.cell?_of_block (w := w) (w' := w2) (a := ⟨r, 0, none⟩) (hK2.block r hlr p1)).trans hc0, (World.cell?_of_block (w := w) (w' := w2) (a := ⟨r, 1, none⟩) (hK2.block r hlr p1)).trans hc1⟩)) ((refine step_copy_v (by rfl) _ _ 22 22 (by rfl) 5 Try.underlying22 Try.size8 (some ⟨nb, 0, none⟩) sb 0 8192 8192 8192 8192 (by rfl) (by rfl) _ 5 HS.out R.now HNM.out HP.out HF.out ?_; intro w2 HS2 hK2 hs2))
  have hr2 := (World.cell?_of_block (w := w) (w' := w2) (a := ⟨r, 2, none⟩) (hK2.block r hlr p1)).trans hc2
  have hh2 := Lib.hid ((hK2.block r hlr p1).trans HH.out.head)
  have hrw : r < w2.heap.size := by rw [hs2]; exact hlr
  clear hc0 hc1 hc2 hc3
  go_wp2_with (at_make; refine wpList_make_full _ rfl _ _ 34 rfl w2.heap.size 4 i0 (.bool false) 1 Try.underlying34 hi hz0 hz1 .i64 .i64 64 64 64 rfl rfl (by omega) (by omega) (by rw [hz2]; omega) (by unfold maxLen; omega) (Nat.le_refl _) ?_; intro w3 hown3 hgrow3; obtain ⟨HG3, hB3⟩ := made_bools hown3 hgrow3; clear hown3 hgrow3; have hfr : w3.frozen? ⟨r, 2, none⟩ = false := (hB3.frozen (p := ⟨r, 2, none⟩) hrw).trans (by simp [World.frozen?, hh2.out]); have hcr3 := (hB3.cell (p := ⟨r, 2, none⟩) hrw).trans hr2)
  go_end0
  have h := HH.out
  have hs2' : w2.heap.size = w.heap.size := hs2
  have hk2 : ∀ x, x < w.heap.size → x ≠ sb → w2.heap[x]? = w.heap[x]? := fun x hx hn => hK2.block x hx hn
  have hs3 := hB3.size
  have hsf : w2.heap[sb]? = some (.cells (R.now.map bv).toArray 5 (0, 0)) := by
    rw [HS2.out, splice_map]
    congr 4
    unfold splice
    rw [List.drop_eq_nil_of_le (by rw [h.len.1, h.len.2.1]; omega)]
    simp
  have hG3 := HG3.out
  rw [hs2'] at hG3
  have hgw := (Array.getElem?_eq_some_iff.1 hG3).1
  refine ⟨rfl, fun x => F x ∨ x = w.heap.size, sb, nb, w.heap.size, ?_, fun x hx => hx.imp id (fun e => by omega), ?_⟩
  · constructor
    · rw [heap_set_same ((hB3.block r hrw).trans hh2.out)]
      rfl
    · rw [heap_set_other _ _ _ _ (Ne.symm p1), hB3.block sb (by omega)]; exact hsf
    · rw [heap_set_other _ _ _ _ (Ne.symm p2), hB3.block nb (by omega), hk2 nb hlnb (Ne.symm p4)]; exact h.now
    · rw [heap_set_other _ _ _ _ (show w.heap.size ≠ r by omega)]; exact hG3
    · exact ⟨h.len.2.1, h.len.2.1, by simp [rflushM]⟩
    · exact ⟨.inl h.own.1, .inl h.own.2.1, .inl h.own.2.2.1, .inr rfl⟩
    · exact ⟨p1, p2, by omega, p4, by omega, by omega⟩
    · intro x hx
      rw [size_set]
      rcases hx with hx | hx
      · have := h.low x hx; omega
      · omega
  · refine ⟨hB3.os.trans hK2.os, hB3.tape.trans hK2.tape, hB3.output.trans hK2.output, by rw [size_set]; omega, fun x hx hn => ?_⟩
    rw [heap_set_other _ _ _ _ (show x ≠ r from fun e => hn (e ▸ h.own.1)), hB3.block x (by omega)]
    exact hk2 x hx (fun e => hn (e ▸ h.own.2.1))
end Go.Proofs.Ytkdomgiabiedlaa
