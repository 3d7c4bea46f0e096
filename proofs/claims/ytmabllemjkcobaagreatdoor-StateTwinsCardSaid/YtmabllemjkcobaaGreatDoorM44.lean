/- permafrostkeep.Tame. The library's own number; a world for the witnesses. What chapter 7's reference says: Good, Within. permafrostbook.Same at texts. permafrostkeep.Reply: two replies that say the same. package state: Snaps.Copy, Settled. package state: Tree (a frozen copy). package snap: Save. package state: Save. -/
import Derived.Test.YtmabllemjkcobaaGreatDoorM43
import Derived.Test.YtmabllemjkcobaaGreatDoorM01
import Derived.SliceStrings
import Derived.Shelf.Vars
import Derived.Test.YtmabllemjkcobaaGreatDoorM22
import Derived.BigQuiet
import Derived.Deep.QuietTactic
import Derived.Test.YtmabllemjkcobaaGreatDoorM41
import Derived.Test.YtmabllemjkcobaaGreatDoorM25
import Derived.Test.YtmabllemjkcobaaGreatDoorM40
import Derived.Test.YtmabllemjkcobaaGreatDoorM33
import Derived.Test.YtmabllemjkcobaaGreatDoorM29
import Derived.Lib.SliceRun
import Derived.Test.YtmabllemjkcobaaGreatDoorM30
import Derived.Test.YtmabllemjkcobaaGreatDoorM24
import Derived.Test.YtmabllemjkcobaaGreatDoorM28
namespace Go.Proofs.YtmabllemjkcobaaGreatDoor
open Go.ChangeShapes Go.WideShapes Go.ChangeAt Go.RowKit
set_option linter.unusedVariables false
set_option linter.unusedSimpArgs false

theorem tame_any {S : Nat → Prop} (w : World) (x : OpM) (hx : OpRaw x) (da : Option Addr) (dc : Nat) (hdc : x.data.length ≤ dc) (hda : RowAt S w da x.data.length (x.data.map bv)) :
    Calls Tryz.prog 10 #[.agg (opC x da dc)] w (TameRet S w x da) := by
  obtain ⟨kd, pa, to_, fd, at_, nn, til, sn, dt⟩ := x
  exact tame_all w kd pa to_ fd at_ nn til sn dt hx da dc hdc hda
end Go.Proofs.YtmabllemjkcobaaGreatDoor
namespace Go.Proofs.YtmabllemjkcobaaGreatDoor
open Go.ChangeShapes Go.WideShapes Go.ChangeAt Go.RowKit
set_option linter.unusedVariables false

theorem maxLen_cell {w : World} (h : w.ShapedOpen Tryz.prog) : ∃ m, w.cell? ⟨0, 0, none⟩ = some (.int .i64 m) ∧ 0 < w.heap.size := by
  obtain ⟨m, hm⟩ := Go.Proofs.cell_of_shapedOpen_int (zero := #[.int .i64 0]) (t := 3) h (of_decide_eq_true (by kernel_rfl)) (by kernel_rfl) rfl (by kernel_rfl) (by kernel_rfl) Tryz.underlying3
  exact ⟨m, hm, World.block_lt_of_cell? w _ hm⟩

/-- A world for the witnesses: the two listed tables of unicode/utf8 hold what their text lays. -/
def layFirst : Obj → Obj
  | .cells _ t frozen => .cells ((Go.Pinned.utf8FirstZ.map fun (n : Nat) => Value.int .u8 (n : Int)).toArray) t frozen
  | o => o
def layRanges : Obj → Obj
  | .cells _ t frozen => .cells ((([128, 191, 160, 191, 128, 159, 144, 191, 128, 143, 0, 0, 0, 0, 0, 0, 0, 0, 0, 0, 0, 0, 0, 0, 0, 0, 0, 0, 0, 0, 0, 0] : List Nat).map fun (n : Nat) => Value.int .u8 (n : Int)).toArray) t frozen
  | o => o
noncomputable def laidBase (os : Os) : World :=
  { World.holding Tryz.prog os ⟨#[], #[], []⟩ with heap := ((World.holding Tryz.prog os ⟨#[], #[], []⟩).heap.modify 1 layFirst).modify 2 layRanges }

end Go.Proofs.YtmabllemjkcobaaGreatDoor
namespace Go.Proofs.YtmabllemjkcobaaGreatDoor
open Go.ChangeShapes Go.WideShapes Go.ChangeAt Go.RowKit
set_option linter.unusedVariables false

theorem getElem_ne_of {α : Type} {l l' : List α} {k : Nat} {x y : α} (hx : l[k]? = some x) (hy : l'[k]? = some y) (h : x ≠ y) : l ≠ l' := by
  intro e; rw [e, hy] at hx; exact h (Option.some.inj hx).symm
theorem take_succ_eq {α : Type} {l l' : List α} {k : Nat} {x : α} (h : l.take k = l'.take k) (hx : l[k]? = some x) (hy : l'[k]? = some x) : l.take (k + 1) = l'.take (k + 1) := by
  rw [List.take_add_one, List.take_add_one, h, hx, hy]
theorem toList_ne {x y : ByteArray} (h : x ≠ y) : (x.toList == y.toList) = false := by
  rw [beq_eq_false_iff_ne, ByteArray.toList_eq, ByteArray.toList_eq]
  intro e
  exact h (WideShapes.bytes_inj e)
end Go.Proofs.YtmabllemjkcobaaGreatDoor
namespace Go.Proofs.YtmabllemjkcobaaGreatDoor
open Go.ChangeShapes Go.WideShapes Go.ChangeAt Go.RowKit
set_option linter.unusedVariables false

theorem same_any {S S' : Nat → Prop} (a a' : Option Addr) (len cap len' cap' : Nat) (ss ss' : List ByteArray) (w : World) (h : StrsAt S w a len ss) (h' : StrsAt S' w a' len' ss') :
    Calls Tryz.prog 35 #[.slice a len cap, .slice a' len' cap'] w fun e w' => e = .returned (.bool (decide (ss = ss'))) ∧ Below w.heap.size w w' := by
  have hl := h.length
  have hl' := h'.length
  have hm := h.row.small
  have hm' := h'.row.small
  unfold maxLen at hm hm'
  by_cases hne : len = len'
  · subst hne
    have HL := Lib.hid hl
    have HL' := Lib.hid hl'
    clear hl hl'
    go_enter Tryz.func35, Tryz.ntmps35
    go_wp2
    go_loopw [5] (fun i wr => ∃ k : Nat, k ≤ len ∧ i = .int .i64 k ∧ ss.take k = ss'.take k ∧ Below w.heap.size w wr) (fun i _ => len - (intOf i).toNat)
    case atStart => exact ⟨0, by omega, rfl, rfl, Below.refl _ _⟩
    case round =>
      obtain ⟨k, hk, rfl, ht, hb⟩ := hrel
      have HT := Lib.hid ht
      clear ht
      by_cases hlt : k < len
      · obtain ⟨b, off, x, rfl, _, _, hx, _, hc⟩ := (h.below hb (Nat.le_refl _)).cell k hlt
        obtain ⟨b', off', y, rfl, _, _, hy, _, hc'⟩ := (h'.below hb (Nat.le_refl _)).cell k hlt
        have HX := Lib.hid hx
        have HY := Lib.hid hy
        clear hx hy h h'
        have hk0 : (0 : Int) ≤ (k : Int) := by omega
        have hk1 : (k : Int) < (len : Int) := by omega
        by_cases hxy : x = y
        · subst hxy
          go_wp2
          go_quiet (fail)
          go_wp2
          go_roundw
          case rel => exact ⟨k + 1, by omega, by go_num, take_succ_eq HT.out HX.out HY.out, hb.trans ⟨rfl, rfl, rfl, Nat.le_refl _, fun _ _ => rfl⟩⟩
          case measure => simp [intOf]; omega
        · have hxl := toList_ne hxy
          have HN := Lib.hid hxy
          clear hxy
          go_wp2
          go_quiet (fail)
          go_wp2
          go_ret
          exact ⟨ret_bool (by simp [getElem_ne_of HX.out HY.out HN.out]), hb.trans ⟨rfl, rfl, rfl, Nat.le_refl _, fun _ _ => rfl⟩⟩
      · go_wp2
        go_ret
        refine ⟨ret_bool ?_, hb⟩
        have := HT.out
        rw [List.take_of_length_le (by have := HL.out; omega), List.take_of_length_le (by have := HL'.out; omega)] at this
        simp [this]
  · have hne' : ss ≠ ss' := fun e => hne (by rw [← hl, ← hl', e])
    have HN := Lib.hid hne'
    have hb0 : ((len : Int) != (len' : Int)) = true := by simp; omega
    clear hl hl' hne hne'
    go_enter Tryz.func35, Tryz.ntmps35
    go_wp2
    go_ret
    exact ⟨ret_bool (by simp [HN.out]), Below.refl _ _⟩
end Go.Proofs.YtmabllemjkcobaaGreatDoor
namespace Go.Proofs.YtmabllemjkcobaaGreatDoor
open Go.ChangeShapes Go.WideShapes Go.ChangeAt Go.RowKit
set_option linter.unusedVariables false
set_option linter.unusedSimpArgs false

abbrev repL (e n : Int) (da : Option Addr) (dl dc : Nat) (la : Option Addr) (ll lc : Nat) (k0 k1 k2 k3 k4 : Int) (k5 : Bool) : Array Value := #[.int .i64 e, .int .i64 n, .slice da dl dc, .slice la ll lc, .int .i64 k0, .int .i64 k1, .int .i64 k2, .int .i64 k3, .int .u64 k4, .bool k5]
set_option maxRecDepth 100000 in
set_option maxHeartbeats 16000000 in
theorem reply_same {S1 S2 S3 S4 : Nat → Prop} (e n : Int) (bs : List UInt8) (ss : List ByteArray) (dl ll : Nat) (k0 k1 k2 k3 k4 : Int) (k5 : Bool) (da la da' la' : Option Addr) (dc lc dc' lc' : Nat) (w : World)
    (h1 : RowAt S1 w da dl (bs.map bv)) (h2 : RowAt S2 w da' dl (bs.map bv)) (h3 : StrsAt S3 w la ll ss) (h4 : StrsAt S4 w la' ll ss) :
    Calls Tryz.prog 11 #[.agg (repL e n da dl dc la ll lc k0 k1 k2 k3 k4 k5), .agg (repL e n da' dl dc' la' ll lc' k0 k1 k2 k3 k4 k5)] w fun en w' => en = .returned (.bool true) ∧ Below w.heap.size w w' := by
  obtain ⟨w2, hw2⟩ : ∃ w2, w2 = (w.alloc (.cells (repL e n da dl dc la ll lc k0 k1 k2 k3 k4 k5) 36)).alloc (.cells (repL e n da' dl dc' la' ll lc' k0 k1 k2 k3 k4 k5) 36) := ⟨_, rfl⟩
  have hb2 : Below w.heap.size w w2 := by rw [hw2]; exact (wall w _).trans ((wall _ _).mono (by simp))
  have hA : w2.heap[w.heap.size]? = some (.cells (repL e n da dl dc la ll lc k0 k1 k2 k3 k4 k5) 36 (0, 0)) := by
    rw [hw2]
    exact ((MapKept.heap_alloc (w.alloc (.cells (repL e n da dl dc la ll lc k0 k1 k2 k3 k4 k5) 36)) _).2 w.heap.size (by simp)).trans (MapKept.heap_alloc w _).1
  have hB : w2.heap[w.heap.size + 1]? = some (.cells (repL e n da' dl dc' la' ll lc' k0 k1 k2 k3 k4 k5) 36 (0, 0)) := by
    rw [hw2]
    have := (MapKept.heap_alloc (w.alloc (.cells (repL e n da dl dc la ll lc k0 k1 k2 k3 k4 k5) 36)) (.cells (repL e n da' dl dc' la' ll lc' k0 k1 k2 k3 k4 k5) 36)).1
    simpa using this
  have HK : Hid (∀ w', Below w2.heap.size w2 w' → w'.cell? ⟨w.heap.size, 0, none⟩ = some (.int .i64 e) ∧ w'.cell? ⟨w.heap.size, 1, none⟩ = some (.int .i64 n) ∧ w'.cell? ⟨w.heap.size, 2, none⟩ = some (.slice da dl dc) ∧ w'.cell? ⟨w.heap.size, 3, none⟩ = some (.slice la ll lc) ∧ w'.cell? ⟨w.heap.size, 4, none⟩ = some (.int .i64 k0) ∧ w'.cell? ⟨w.heap.size, 5, none⟩ = some (.int .i64 k1) ∧ w'.cell? ⟨w.heap.size, 6, none⟩ = some (.int .i64 k2) ∧ w'.cell? ⟨w.heap.size, 7, none⟩ = some (.int .i64 k3) ∧ w'.cell? ⟨w.heap.size, 8, none⟩ = some (.int .u64 k4) ∧ w'.cell? ⟨w.heap.size, 9, none⟩ = some (.bool k5) ∧ w'.cell? ⟨w.heap.size + 1, 0, none⟩ = some (.int .i64 e) ∧ w'.cell? ⟨w.heap.size + 1, 1, none⟩ = some (.int .i64 n) ∧ w'.cell? ⟨w.heap.size + 1, 2, none⟩ = some (.slice da' dl dc') ∧ w'.cell? ⟨w.heap.size + 1, 3, none⟩ = some (.slice la' ll lc') ∧ w'.cell? ⟨w.heap.size + 1, 4, none⟩ = some (.int .i64 k0) ∧ w'.cell? ⟨w.heap.size + 1, 5, none⟩ = some (.int .i64 k1) ∧ w'.cell? ⟨w.heap.size + 1, 6, none⟩ = some (.int .i64 k2) ∧ w'.cell? ⟨w.heap.size + 1, 7, none⟩ = some (.int .i64 k3) ∧ w'.cell? ⟨w.heap.size + 1, 8, none⟩ = some (.int .u64 k4) ∧ w'.cell? ⟨w.heap.size + 1, 9, none⟩ = some (.bool k5) ∧ (convert 26 9 (.slice da dl dc)).run Tryz.prog w' = .ok (.string (strOf bs)) w' ∧ (convert 26 9 (.slice da' dl dc')).run Tryz.prog w' = .ok (.string (strOf bs)) w') := fun w' hb => by
    have a1 := (hb.block w.heap.size (Array.getElem?_eq_some_iff.1 hA).1).trans hA
    have a2 := (hb.block (w.heap.size + 1) (Array.getElem?_eq_some_iff.1 hB).1).trans hB
    refine ⟨?_, ?_, ?_, ?_, ?_, ?_, ?_, ?_, ?_, ?_, ?_, ?_, ?_, ?_, ?_, ?_, ?_, ?_, ?_, ?_, ?_, ?_⟩
    · simp [World.cell?, a1]
    · simp [World.cell?, a1]
    · simp [World.cell?, a1]
    · simp [World.cell?, a1]
    · simp [World.cell?, a1]
    · simp [World.cell?, a1]
    · simp [World.cell?, a1]
    · simp [World.cell?, a1]
    · simp [World.cell?, a1]
    · simp [World.cell?, a1]
    · simp [World.cell?, a2]
    · simp [World.cell?, a2]
    · simp [World.cell?, a2]
    · simp [World.cell?, a2]
    · simp [World.cell?, a2]
    · simp [World.cell?, a2]
    · simp [World.cell?, a2]
    · simp [World.cell?, a2]
    · simp [World.cell?, a2]
    · simp [World.cell?, a2]
    · exact conv_row ((h1.below hb2 (Nat.le_refl _)).below hb (Nat.le_refl _))
    · exact conv_row ((h2.below hb2 (Nat.le_refl _)).below hb (Nat.le_refl _))
  have hsm := (fun w' (hb : Below w2.heap.size w2 w') => same_any la la' ll lc ll lc' ss ss w' ((h3.below hb2 (Nat.le_refl _)).below hb (Nat.le_refl _)) ((h4.below hb2 (Nat.le_refl _)).below hb (Nat.le_refl _)))
  rw [decide_eq_true (rfl : ss = ss)] at hsm
  have HSM := Lib.hid hsm
  clear hsm
  have HB2 := Lib.hid hb2
  have HW2 := Lib.hid hw2
  have hq := HK.out _ (Below.refl _ _)
  rw [hw2] at hq
  obtain ⟨p0, p1, p2, p3, -, -, -, -, -, -, z0, z1, z2, z3, -, -, -, -, -, -, cv1, cv2⟩ := hq
  clear h1 h2 h3 h4 hA hB hb2 hw2
  go_enter Tryz.func11, Tryz.ntmps11
  go_wp2_with fail
  (with_reducible refine (HSM.out _ (by rw [HW2.out]; exact Below.refl _ _)).mono ?_)
  rintro en w3 ⟨rfl, hb3⟩
  have HB3 : Hid (Below w2.heap.size w2 w3) := by rw [HW2.out]; exact Lib.hid hb3
  have hq := HK.out _ HB3.out
  obtain ⟨-, -, -, -, q4, q5, q6, q7, q8, q9, -, -, -, -, r4, r5, r6, r7, r8, r9, -, -⟩ := hq
  clear hb3
  go_wp2_with fail
  go_ret
  exact ⟨rfl, HB2.out.trans (HB3.out.mono HB2.out.size)⟩
end Go.Proofs.YtmabllemjkcobaaGreatDoor
namespace Go.Proofs.YtmabllemjkcobaaGreatDoor
open Go.ChangeShapes Go.WideShapes Go.ChangeAt Go.RowKit
set_option linter.unusedVariables false
set_option linter.unusedSimpArgs false

set_option maxHeartbeats 1000000 in
theorem sclone_any {B n : Nat} {v : Value} {vals : List Value} {w : World} (hv : w.ownsRow B 105 3 v n vals) (h1 : ∀ u ∈ vals, u.oneCell' = true) (hn : n ≤ 1000) :
    Calls Tryz.prog 129 #[v] w fun e w' => ∃ v', e = .returned v' ∧ w'.ownsRow w.heap.size 105 3 v' n vals ∧ Below w.heap.size w w' := by
  obtain ⟨i0, hi, hz0, hz1, hz2⟩ := info_parts infoOne
  obtain ⟨a, c, rfl, hcap⟩ := own_form hv
  obtain ⟨-, -, hr⟩ := RowAt.of_rown hv (by unfold maxLen; omega)
  have heq := fun w => Lib.run_eql_slice_nil (P := Tryz.prog) w 99 105 a n c 0 0 Tryz.underlying99
  rcases a with _ | ad
  · have h0 : n = 0 := by
      rcases Nat.eq_zero_or_pos n with h0 | h0
      · exact h0
      · obtain ⟨_, _, h, _⟩ := hr.at_ (Nat.mul_pos h0 (by omega : 0 < 3))
        cases h
    subst h0
    obtain rfl : vals = [] := List.eq_nil_of_length_eq_zero (by have := hr.length; omega)
    clear hv hr h1
    go_enter Tryz.func129, Tryz.ntmps129
    go_wp2_with fail
    go_ret
    exact ⟨_, rfl, ⟨rfl, .inl ⟨rfl, rfl⟩⟩, Below.refl _ _⟩
  · have hb0 : Below w.heap.size w (w.alloc (.cells #[] 105)) := wall w _
    have HR := Lib.hid (hr.move hb0.size fun b hb hbw => ⟨hb.2, hb0.block b hb.2⟩)
    have HO := Lib.hid (rown_new (k := 3) (MapKept.heap_alloc w (.cells #[] 105)).1 (Nat.le_refl _))
    have H1 := Lib.hid h1
    have HB0 := Lib.hid hb0
    clear hv hr h1 hb0
    go_enter Tryz.func129, Tryz.ntmps129
    go_wp2_with (at_builtin; refine wpList_append_rowb (by rfl) _ _ 99 (by rfl) w.heap.size 105 i0 _ 3 40 Tryz.underlying99 hi hz0 hz1 hz2 rfl (by omega) _ _ _ (by rfl) HO.out (some ad) n c vals (by rfl) HR.out H1.out (by unfold maxLen; omega) (by omega) (by have := HB0.out.size; omega) ?_; intro A' c' w2 hown2 hb2)
    go_ret
    rw [Nat.zero_add] at hown2
    exact ⟨_, by simp, hown2, HB0.out.trans hb2⟩
section
variable {W w : World} {o : Mark} {i j k p s : Nat} {S : SnM}
set_option maxRecDepth 100000 in
set_option maxHeartbeats 4000000 in
theorem scopy_any (hS : SnapsO o i w s S) (hM : Marks W o w) (hl8 : S.l.length ≤ 8) (hla : S.last.length ≤ 64) (j : Nat) (hj : j ≠ 0) :
    Calls Tryz.prog 62 #[ptr s] w fun e w' => ∃ q o', e = .returned (ptr q) ∧ Step o (fun k => k = j) w o' w' ∧ SnapsO o' j w' q S ∧ Below w.heap.size w w' := by
  obtain ⟨v, la, lc, vals, h1, h2, h3, h4, h5, h6, h7, h8⟩ := hS.at_
  have HM := Lib.hid hM
  have HO := Lib.hid h6
  have HLA := Lib.hid h8
  obtain ⟨n, hn⟩ : ∃ n, n = S.l.length := ⟨_, rfl⟩
  obtain ⟨m, hm⟩ : ∃ m, m = S.last.length := ⟨_, rfl⟩
  obtain ⟨nx, hnx⟩ : ∃ nx, nx = S.next := ⟨_, rfl⟩
  rw [← hn] at h4 hl8
  rw [← hm, ← hnx] at h1
  rw [← hm] at h7 hla
  have HN := Lib.hid hn
  have HM2 := Lib.hid hm
  have HNX := Lib.hid hnx
  have HL7 := Lib.hid h7
  have HK : Hid (∀ w', Below w.heap.size w w' → w'.cell? ⟨s, 0, none⟩ = some v ∧ w'.cell? ⟨s, 1, none⟩ = some (.int .i64 nx) ∧ w'.cell? ⟨s, 2, none⟩ = some (.slice la m lc)) := fun w' hb => by
    have hs := (hb.block s h3).trans h1
    refine ⟨?_, ?_, ?_⟩ <;> simp [World.cell?, hs]
  have HCL := fun (w' : World) (hb : Below w.heap.size w w') => sclone_any (own_keep h4 fun b _ hbw => hb.block b hbw) h6.one (by omega)
  have HC := Lib.hid HCL
  clear hS hM h1 h2 h3 h4 h5 h6 h7 h8 hn hm hnx HCL
  go_enter Tryz.func62, Tryz.ntmps62
  go_wp2_with fail
  refine wp_region_noPanic ?_
  refine wp_region_held_drew (S := (fun w' => w'.cell? ⟨s, 0, none⟩ = some v ∧ w'.cell? ⟨s, 1, none⟩ = some (.int .i64 nx) ∧ w'.cell? ⟨s, 2, none⟩ = some (.slice la m lc))) (by kernel_rfl) ?_ (fun hS => ?_)
  · exact HK.out _ (Below.refl _ _).drew
  refine tkH 0 (hS := hS) (h := ?_)
  refine tkH 1 (hS := hS) (h := ?_)
  refine tkH 2 (hS := hS) (h := ?_)
  refine tkH 3 (hS := hS) (h := ?_)
  refine tkH 5 (hS := hS) (h := ?_)
  refine tkH 6 (hS := hS) (h := ?_)
  refine tkH 7 (hS := hS) (h := ?_)
  refine tkH 8 (hS := hS) (h := ?_)
  refine tkH 9 (hS := hS) (h := ?_)
  refine tkH 10 (hS := hS) (h := ?_)
  refine tkH 11 (hS := hS) (h := ?_)
  refine tkH 12 (hS := hS) (h := ?_)
  refine rdH 4 (h := fun K hK => ?_)
  go_simp
  (with_reducible refine (HC.out w.drew (Below.refl _ _).drew).mono ?_)
  rintro e w1 ⟨v', rfl, hv', hb1⟩
  have hb01 : Below w.heap.size w w1 := (Below.refl _ _).drew.trans hb1
  have HB1 := Lib.hid hb01
  obtain ⟨a', c', rfl, hac'⟩ := own_form hv'
  have HV := Lib.hid hv'
  clear hv' hb1 hb01 hac'
  go_wp2_with fail
  refine hK.out _ _ (HK.out _ HB1.out) (fun hS => ?_)
  clear hK K
  try simp only [Act.put, List.setIfInBounds_toArray, List.set_cons_zero, List.set_cons_succ]
  refine tkH 13 (hS := hS) (h := ?_)
  refine rdH 14 (h := fun K hK => ?_)
  go_simp
  have hb12 := wall w1 (.cells #[.slice a' n c', .int .i64 nx, .slice la m lc] 101)
  have HB12 := Lib.hid hb12
  have HB2 := Lib.hid (HB1.out.trans (hb12.mono HB1.out.size))
  clear hb12
  refine hK.out _ _ (HK.out _ HB2.out) (fun hS => ?_)
  clear hK K
  try simp only [Act.put, List.setIfInBounds_toArray, List.set_cons_zero, List.set_cons_succ]
  refine tkH 15 (hS := hS) (h := ?_)
  refine wpAnyH_done (by kernel_rfl) ?_ _
  refine NoPanic.normal ?_
  go_wp2_with fail
  go_ret
  have hs12 : w1.heap.size < (w1.alloc (.cells #[.slice a' n c', .int .i64 nx, .slice la m lc] 101)).heap.size := by simp
  have hs01 := HB1.out.size
  obtain ⟨o', hs, g1, g2⟩ := mark_new HM.out j (fun b => b = w1.heap.size ∨ (Value.slice a' n c').ownBlock = some b) (w' := w1.alloc (.cells #[.slice a' n c', .int .i64 nx, .slice la m lc] 101)) (fun b hb => by
    rcases hb with rfl | hb
    · exact ⟨by omega, hs12⟩
    · have := own_block_ge HV.out b hb
      have := own_low HV.out b hb
      exact ⟨by simpa using own_block_ge HV.out b hb, by omega⟩) HB2.out
  refine ⟨w1.heap.size, o', rfl, hs, ⟨.slice a' n c', la, lc, vals, ?_, g1 _ (.inl rfl), hs12, ?_, fun b hb => ⟨g1 b (.inr hb), ?_, ?_⟩, ?_, ?_, ?_⟩, HB2.out⟩
  · rw [← HNX.out, ← HM2.out]; exact (MapKept.heap_alloc w1 _).1
  · rw [← HN.out]
    exact own_keep (own_base HV.out (Nat.zero_le _)) fun b _ hbw => HB12.out.block b hbw
  · have := own_low HV.out b hb; omega
  · have := own_low HV.out b hb; omega
  · exact HO.out.step (fun e => hj e.symm) hs
  · rw [← HM2.out]; exact HL7.out
  · exact HLA.out.move HB2.out.size fun b hb hbw => ⟨⟨(hs.old b hb.2).trans hb.1, Nat.lt_of_lt_of_le hb.2 HB2.out.size⟩, HB2.out.block b hb.2⟩
/-- A state without what is open. -/
def settledM (M : StM) : StM := ⟨commitM M.t, M.s, M.now, fun _ => none⟩
theorem StOk.settled {c : Int} {M : StM} (h : StOk c M) : StOk c (settledM M) := ⟨h.t.commitM, h.s, h.next, h.now, fun n f hf => by cases hf⟩
end
end Go.Proofs.YtmabllemjkcobaaGreatDoor
namespace Go.Proofs.YtmabllemjkcobaaGreatDoor
open Go.ChangeShapes Go.WideShapes Go.ChangeAt Go.RowKit
set_option linter.unusedVariables false
set_option linter.unusedSimpArgs false

section
variable {W w : World} {o : Mark} {i j k p : Nat} {M : StM}
theorem stree_any (hS : StateO o i j k w p M) (hM : Marks W o w) (hok : OkM M.t) : Calls Tryz.prog 14 #[ptr p] w fun e w' => ∃ q, e = .returned (ptr q) ∧ TreeO o 0 w' q M.t ∧ Below w.heap.size w w' := by
  obtain ⟨t, s, v, h1, h2, h3, h4⟩ := hS.at_
  obtain ⟨z0, z1, z2, z3, z4⟩ := st_cells h1
  have HC := Lib.hid (om_copy0 h3 hM hok)
  clear hS hM hok h1 h2 h3 h4 z1 z2 z3 z4
  go_enter Tryz.func14, Tryz.ntmps14
  go_wp2_with fail
  (with_reducible refine HC.out.mono ?_)
  rintro e w1 ⟨q, rfl, hT, hb⟩
  have HT := Lib.hid hT
  have HB := Lib.hid hb
  clear hT hb
  go_wp2_with fail
  go_ret
  exact ⟨q, rfl, HT.out, HB.out⟩
end
end Go.Proofs.YtmabllemjkcobaaGreatDoor
namespace Go.Proofs.YtmabllemjkcobaaGreatDoor
open Go.ChangeShapes Go.WideShapes Go.ChangeAt Go.RowKit
set_option linter.unusedVariables false
set_option linter.unusedSimpArgs false

def oneB (x : OneM) : List UInt8 := beB x.id 8 ++ rowB x.hash ++ beB (saveB x.t).length 8 ++ saveB x.t
def saveSn (S : SnM) : List UInt8 := beB S.next 8 ++ rowB S.last ++ beB S.l.length 1 ++ S.l.flatMap oneB
/-- What Save asks of snapshots. -/
structure SvOk (S : SnM) : Prop where
  few : S.l.length ≤ 8
  last : S.last.length ≤ 64
  next : 0 ≤ S.next ∧ S.next ≤ 1000000000
  each : ∀ x ∈ S.l, (0 ≤ x.id ∧ x.id ≤ 1000000000) ∧ x.hash.length ≤ 64
theorem saveB_small {T : TrM} (hT : OkM T) : (saveB T).length ≤ 6000000 := by
  have h1 := items_len hT T (fun q hq => hq)
  have h2 := hT.len
  unfold saveB
  rw [List.length_append, beB_len]
  omega
theorem oneB_len {x : OneM} (hT : OkM x.t) (hh : x.hash.length ≤ 64) : (oneB x).length ≤ 6000100 := by
  have := saveB_small hT
  unfold oneB
  simp only [List.length_append, beB_len, rowB_len]
  omega
theorem ones_len {o : Mark} {w : World} : ∀ {vs : List Value} {l : List OneM}, OnesAt o w vs l → (∀ x ∈ l, x.hash.length ≤ 64) → (l.flatMap oneB).length ≤ 6000100 * l.length
  | _, [], _, _ => by simp
  | _, x :: r, ⟨v1, v2, h1, h2, h3⟩, hh => by
    obtain ⟨a, c, q, e1, e2, e3, e4, e5⟩ := h2
    have k1 := oneB_len e5 (hh x (by simp))
    have k2 := ones_len h3 fun y hy => hh y (by simp [hy])
    rw [List.flatMap_cons, List.length_append, List.length_cons]
    omega
theorem take_oneB {l : List OneM} {k : Nat} {x : OneM} (h : l[k]? = some x) : (l.take (k + 1)).flatMap oneB = (l.take k).flatMap oneB ++ oneB x := by
  obtain ⟨hk, e⟩ := List.getElem?_eq_some_iff.1 h
  rw [List.take_succ_eq_append_getElem hk, List.flatMap_append, e]
  simp
theorem take_ones_len {o : Mark} {w : World} {vs : List Value} {l : List OneM} (h : OnesAt o w vs l) (hh : ∀ x ∈ l, x.hash.length ≤ 64) (h8 : l.length ≤ 8) (k : Nat) : ((l.take k).flatMap oneB).length ≤ 50000000 := by
  have := ones_len (h.take k) fun x hx => hh x (List.mem_of_mem_take hx)
  have h9 : (l.take k).length ≤ 8 := by rw [List.length_take]; omega
  omega
/-- These blocks are not the writer's. -/
def Aside (x : Nat) (v : Value) (lo hi : Nat) : Prop := ∀ b, lo ≤ b → b < hi → b ≠ x ∧ v.ownBlock ≠ some b
theorem Aside.more {B x lo hi : Nat} {w w' : World} {v v' : Value} {bs' : List UInt8} (h : Aside x v lo hi) (hm : WMore B w x v bs' v' w') (hw : hi ≤ w.heap.size) : Aside x v' lo hi ∧ ∀ b, lo ≤ b → b < hi → w'.heap[b]? = w.heap[b]? := by
  refine ⟨fun b h1 h2 => ⟨(h b h1 h2).1, fun h9 => ?_⟩, fun b h1 h2 => hm.2.1.block b (by omega) fun h9 => ?_⟩
  · rcases hm.2.2 b h9 with h3 | h3
    · exact (h b h1 h2).2 h3
    · omega
  · rcases h9 with h3 | h3
    · exact (h b h1 h2).1 h3
    · exact (h b h1 h2).2 h3
section
variable {W w : World} {o : Mark} {i s : Nat} {S : SnM}
/-- Writing so far. -/
def SvRel (w : World) (x : Nat) (bs : List UInt8) (wr : World) : Prop := ∃ v, WriterAt w.heap.size wr x v bs ∧ Below w.heap.size w wr
theorem SvRel.more {w : World} {x : Nat} {bs bs' : List UInt8} {wr w' : World} {v : Value} {e : Ending} (h : WriterAt w.heap.size wr x v bs) (hb : Below w.heap.size w wr) (ht : WTurn w.heap.size wr x v bs' e w') : e = .returned (.tuple #[]) ∧ SvRel w x bs' w' := by
  obtain ⟨rfl, v', hm⟩ := ht
  exact ⟨rfl, v', hm.1, hb.trans (hm.low h)⟩
theorem conv_iu (z : Int) (h0 : 0 ≤ z) (h1 : z ≤ 1000000000) : ∀ w, (convert 3 25 (.int .i64 z)).run Tryz.prog w = .ok (.int .u64 z) w := fun w => by
  have hk : Tryz.prog.intKind 25 = .u64 := by kernel_rfl
  have := run_convert_int (P := Tryz.prog) w 3 25 .i64 z (by rw [Tryz.underlying3]; rfl) (by rw [hk]; exact Tryz.underlying25)
  rw [this, hk]
  have e : IntKind.u64.wrap z = z := by
    show z % 18446744073709551616 = z
    omega
  rw [e]
set_option maxRecDepth 100000 in
set_option maxHeartbeats 8000000 in
theorem ssave_any (hS : SnapsO o i w s S) (hM : Marks W o w) (hv : SvOk S) : Calls Tryz.prog 56 #[ptr s] w (RetRow w (saveSn S)) := by
  obtain ⟨v, la, lc, vals, h1, h2, h3, h4, h5, h6, h7, h8⟩ := hS.at_
  obtain ⟨a, c, rfl, hcap⟩ := own_form h4
  have hfew := hv.few
  obtain ⟨-, -, hrow⟩ := RowAt.of_rown h4 (by unfold maxLen; omega)
  have HON := Lib.hid h6
  have HROW := Lib.hid hrow
  have HLR := Lib.hid h8
  have HLC := Lib.hid h7
  have HM := Lib.hid hM
  have HV := Lib.hid hv
  have HTK := Lib.hid (take_ones_len h6 (fun x hx => (hv.each x hx).2) hv.few)
  have HH : Hid (∀ w', Below w.heap.size w w' → w'.cell? ⟨s, 0, none⟩ = some (.slice a S.l.length c) ∧ w'.cell? ⟨s, 1, none⟩ = some (.int .i64 S.next) ∧ w'.cell? ⟨s, 2, none⟩ = some (.slice la S.last.length lc)) := fun w' hb => by
    have := (hb.block s h3).trans h1
    refine ⟨?_, ?_, ?_⟩ <;> simp [World.cell?, this]
  have hcn := conv_iu S.next hv.next.1 hv.next.2
  obtain ⟨n, hn⟩ : ∃ n, n = S.l.length := ⟨_, rfl⟩
  have HN := Lib.hid hn
  rw [← hn] at HH hcap hfew
  have hll := hv.last
  have hnx := hv.next
  obtain ⟨c0, c1, c2⟩ := HH.out w (Below.refl _ _)
  clear hS hM hv h1 h2 h4 h5 h6 h7 h8 hrow hn
  go_enter Tryz.func56, Tryz.ntmps56
  go_wp2_with fail
  (with_reducible refine (newWriter_any _).mono ?_)
  rintro e w1 ⟨rfl, hW1, hb1⟩
  have HW1 := Lib.hid hW1
  have HB1 := Lib.hid hb1
  obtain ⟨d0, d1, d2⟩ := HH.out w1 hb1
  clear hW1 hb1 c0 c1 c2
  go_wp2_with fail
  (with_reducible refine (long_any HW1.out S.next hnx.1 (by omega) (by simp)).mono ?_)
  intro e w2 ht2
  obtain ⟨rfl, x2, hW2, hb2⟩ := SvRel.more HW1.out HB1.out ht2
  have HW2 := Lib.hid hW2
  have HB2 := Lib.hid hb2
  obtain ⟨e0, e1, e2⟩ := HH.out w2 hb2
  clear ht2 hW2 hb2 d0 d1 d2 HW1
  go_wp2_with fail
  have hlr := HLR.out.below HB2.out (Nat.le_refl _)
  (with_reducible refine (bytes_w HW2.out la S.last.length lc S.last hlr (fun b hb => ⟨by have := HW2.out.low; omega, fun h9 => by have := own_block_ge HW2.out.own b h9; omega⟩) HLC.out (by simp [beB_len]) (by omega)).mono ?_)
  intro e w3 ht3
  obtain ⟨rfl, x3, hW3, hb3⟩ := SvRel.more HW2.out HB2.out ht3
  have HW3 := Lib.hid hW3
  have HB3 := Lib.hid hb3
  obtain ⟨f0, f1, f2⟩ := HH.out w3 hb3
  clear ht3 hW3 hb3 e0 e1 e2 HW2 hlr
  go_wp2_with fail
  (with_reducible refine (byte_any HW3.out (n : Int) (by omega) (by omega) (by simp [beB_len]; omega)).mono ?_)
  intro e w4 ht4
  obtain ⟨rfl, x4, hW4, hb4⟩ := SvRel.more HW3.out HB3.out ht4
  have HW4 := Lib.hid hW4
  have HB4 := Lib.hid hb4
  obtain ⟨k0, k1, k2⟩ := HH.out w4 hb4
  clear ht4 hW4 hb4 f0 f1 f2 HW3
  obtain ⟨pre, hpre⟩ : ∃ pre, pre = [] ++ beB S.next 8 ++ (beB (S.last.length : Int) 2 ++ S.last) ++ beB (n : Int) 1 := ⟨_, rfl⟩
  have hprl : pre.length ≤ 1000 := by rw [hpre]; simp [beB_len]; omega
  rw [← hpre] at HW4
  have HPRE := Lib.hid hpre
  clear hpre
  go_wp2_with fail
  go_loopw [5, 6, 33] (fun _ _ iv wr => ∃ k : Nat, iv = .int .i64 k ∧ k ≤ n ∧ SvRel w w.heap.size (pre ++ (S.l.take k).flatMap oneB) wr) (fun _ _ iv _ => n - (intOf iv).toNat)
  case atStart => exact ⟨0, rfl, Nat.zero_le _, x4, by simpa using HW4.out, HB4.out⟩
  case round =>
    obtain ⟨k, rfl, hk, y, hy, hby⟩ := hrel
    have HY := Lib.hid hy
    have HBY := Lib.hid hby
    have hbl := HTK.out k
    clear hy hby
    by_cases hlt : k < n
    · have hd : decide ((k : Int) < (n : Int)) = true := by simpa using hlt
      obtain ⟨x, hx⟩ : ∃ x, S.l[k]? = some x := ⟨S.l[k]'(by have := HN.out; omega), List.getElem?_eq_getElem _⟩
      have HRW := HROW.out
      rw [← HN.out] at HRW
      obtain ⟨g, off, rfl, hgw, _, hcell⟩ := HRW.at_ (by omega)
      obtain ⟨ha, hcp, q, r0, r1, r2, r3, r4, r5, r6⟩ := HON.out.at_ hx
      have q0 : wr.cell? ⟨g, off + k * 3, none⟩ = some (.int .i64 x.id) := (HBY.out.cell (p := ⟨g, off + k * 3, none⟩) hgw.2).trans ((hcell (k * 3) (by omega)).trans r0)
      have q1 : wr.cell? ⟨g, off + k * 3 + 1, none⟩ = some (.slice ha x.hash.length hcp) := (HBY.out.cell (p := ⟨g, off + k * 3 + 1, none⟩) hgw.2).trans ((hcell (k * 3 + 1) (by omega)).trans r1)
      have q2 : wr.cell? ⟨g, off + k * 3 + 2, none⟩ = some (ptr q) := (HBY.out.cell (p := ⟨g, off + k * 3 + 2, none⟩) hgw.2).trans ((hcell (k * 3 + 2) (by omega)).trans r2)
      have hid := HV.out.each x (List.mem_of_getElem? hx)
      have hci := conv_iu x.id hid.1.1 hid.1.2
      have hsb := saveB_small r6
      have hcb := conv_iu ((saveB x.t).length : Int) (by omega) (by omega)
      have HX := Lib.hid hx
      have HR4 := Lib.hid r4
      have HR5 := Lib.hid r5
      have HR6 := Lib.hid r6
      have i0 : (0 : Int) ≤ (k : Int) := by omega
      have i1 : (k : Int) < (n : Int) := by omega
      have hs0 := HBY.out.size
      clear hx r0 r1 r2 r4 r5 r6 hcell HRW
      go_wp2_with fail
      have hub := wall wr (.cells #[.int .i64 x.id, .slice ha x.hash.length hcp, ptr q] 105)
      have hu1 := (MapKept.heap_alloc wr (.cells #[.int .i64 x.id, .slice ha x.hash.length hcp, ptr q] 105)).1
      (with_reducible refine (om_save (HR5.out.grow (HBY.out.trans (Below.mono hub hs0))) HR6.out).mono ?_)
      rintro e u2 ⟨ba, bn, bc, rfl, hbc, hbr, hb6⟩
      have hbl2 : bn = (saveB x.t).length := by have := hbr.length; simpa using this.symm
      subst hbl2
      have hyl := own_lt HY.out.own
      have hxl := HY.out.lt
      have hu2 := (hb6.block wr.heap.size (by simp)).trans hu1
      have hbu : Below wr.heap.size wr u2 := hub.trans (hb6.mono hub.size)
      have HBR := Lib.hid (hbr.mono (S' := fun b => wr.heap.size ≤ b ∧ b < u2.heap.size) fun b hb => ⟨Nat.le_trans hub.size hb.1, hb.2⟩)
      have HAS : Hid (Aside w.heap.size y wr.heap.size u2.heap.size) := fun b h1 h2 => ⟨by omega, fun h9 => by have := hyl b h9; omega⟩
      have HW6 := Lib.hid (HY.out.below hbu)
      have HB6 := Lib.hid (HBY.out.trans (hbu.mono hs0))
      have HU2 := Lib.hid hu2
      have hwu : wr.heap.size < u2.heap.size := (Array.getElem?_eq_some_iff.1 hu2).1
      have v0 : u2.cell? ⟨wr.heap.size, 0, none⟩ = some (.int .i64 x.id) := by simp [World.cell?, hu2]
      have v1 : u2.cell? ⟨wr.heap.size, 1, none⟩ = some (.slice ha x.hash.length hcp) := by simp [World.cell?, hu2]
      have hl6 : (pre ++ (S.l.take k).flatMap oneB).length ≤ 50001000 := by rw [List.length_append]; omega
      obtain ⟨b0, hb0⟩ : ∃ b0, b0 = pre ++ (S.l.take k).flatMap oneB := ⟨_, rfl⟩
      rw [← hb0] at hl6
      have HW6' : Hid (WriterAt w.heap.size u2 w.heap.size y b0) := by rw [hb0]; exact HW6
      have HBQ := Lib.hid hb0
      clear hub hu1 hbr hb6 hyl hu2 hbu q0 q1 q2 HY HW6 hb0
      go_wp2_with fail
      (with_reducible refine (long_any HW6'.out x.id hid.1.1 (by omega) (by omega)).mono ?_)
      rintro e u3 ⟨rfl, y3, hm3⟩
      obtain ⟨has3, hk3⟩ := HAS.out.more hm3 (Nat.le_refl _)
      have hu3 := (hk3 wr.heap.size (Nat.le_refl _) hwu).trans HU2.out
      have HW7 := Lib.hid hm3.1
      have HB7 := Lib.hid (HB6.out.trans (hm3.low HW6'.out))
      have HAS3 := Lib.hid has3
      have hs3 := hm3.2.1.size
      have HBR3 := Lib.hid (HBR.out.kept hs3 (fun b hb _ => hk3 b hb.1 hb.2))
      have v1' : u3.cell? ⟨wr.heap.size, 1, none⟩ = some (.slice ha x.hash.length hcp) := by simp [World.cell?, hu3]
      clear hm3 has3 hk3 hu3 v0 v1 HW6' HBR
      go_wp2_with fail
      have hhr := HR4.out.below HB7.out (Nat.le_refl _)
      (with_reducible refine (bytes_w HW7.out ha x.hash.length hcp x.hash hhr (fun b hb => ⟨by omega, fun h9 => by have := own_block_ge HW7.out.own b h9; omega⟩) (by omega) (by simp [beB_len]; omega) (by omega)).mono ?_)
      rintro e u4 ⟨rfl, y4, hm4⟩
      obtain ⟨has4, hk4⟩ := HAS3.out.more hm4 hs3
      have hs4 := hm4.2.1.size
      have HW8 := Lib.hid hm4.1
      have HB8 := Lib.hid (HB7.out.trans (hm4.low HW7.out))
      have HAS4 := Lib.hid has4
      have HBR4 := Lib.hid (HBR3.out.kept hs4 (fun b hb _ => hk4 b hb.1 hb.2))
      clear hm4 has4 hk4 v1' hhr HW7 HBR3
      go_wp2_with fail
      (with_reducible refine (long_any HW8.out ((saveB x.t).length : Int) (by omega) (by omega) (by simp [beB_len]; omega)).mono ?_)
      rintro e u5 ⟨rfl, y5, hm5⟩
      obtain ⟨has5, hk5⟩ := HAS4.out.more hm5 (by omega)
      have hs5 := hm5.2.1.size
      have HW9 := Lib.hid hm5.1
      have HB9 := Lib.hid (HB8.out.trans (hm5.low HW8.out))
      have HBR5 := Lib.hid (HBR4.out.kept hs5 (fun b hb _ => hk5 b hb.1 hb.2))
      clear hm5 has5 hk5 HW8 HBR4
      go_wp2_with fail
      (with_reducible refine (raw_any HW9.out ba (saveB x.t).length bc (saveB x.t) HBR5.out (by simp [beB_len]; omega) (by omega)).mono ?_)
      rintro e u6 ⟨rfl, y6, hm6⟩
      have HWA := Lib.hid hm6.1
      have HBA := Lib.hid (HB9.out.trans (hm6.low HW9.out))
      clear hm6 HW9 HBR5
      go_wp2_with fail
      go_roundw
      case rel =>
        refine ⟨k + 1, by go_num, by omega, y6, ?_, HBA.out⟩
        have h9 := HWA.out
        rw [HBQ.out] at h9
        rw [take_oneB HX.out, oneB, rowB]
        simpa only [List.append_assoc] using h9
      case measure => simp [intOf]; omega
    · have hd : decide ((k : Int) < (n : Int)) = false := by simp; omega
      obtain rfl : k = n := by omega
      have hkl : S.l.take k = S.l := List.take_of_length_le (by have := HN.out; omega)
      rw [hkl] at HY hbl
      go_wp2_with fail
      (with_reducible refine (done_any HY.out (by rw [List.length_append]; omega)).mono ?_)
      rintro e u2 ⟨ba, bn, bc, rfl, hbc, hbr, hb6⟩
      have HBR := Lib.hid hbr
      have HB6 := Lib.hid hb6
      clear hbr hb6
      go_wp2_with fail
      go_ret
      have hs0 := HBY.out.size
      refine ⟨ba, bn, bc, rfl, hbc, ?_, HBY.out.trans (HB6.out.mono hs0)⟩
      have e : pre ++ S.l.flatMap oneB = saveSn S := by
        rw [HPRE.out, HN.out]
        unfold saveSn rowB
        simp
      have h9 := HBR.out
      rw [e] at h9
      exact h9.mono fun b hb => ⟨by omega, hb.2⟩
end
end Go.Proofs.YtmabllemjkcobaaGreatDoor
namespace Go.Proofs.YtmabllemjkcobaaGreatDoor
open Go.ChangeShapes Go.WideShapes Go.ChangeAt Go.RowKit
set_option linter.unusedVariables false
set_option linter.unusedSimpArgs false

def saveSt (M : StM) : List UInt8 := beB M.now 8 ++ beB (saveB (commitM M.t)).length 8 ++ saveB (commitM M.t) ++ saveSn M.s
/-- Snapshots' IDs and hashes are small. -/
def SnIds (S : SnM) : Prop := ∀ x ∈ S.l, (0 ≤ x.id ∧ x.id ≤ S.next) ∧ x.hash.length ≤ 64
theorem SnIds.new : SnIds newSn := fun x hx => by cases hx
theorem SnIds.take {S : SnM} (h : SnIds S) (h0 : 0 ≤ S.next) (T : TrM) : SnIds (takeM S T).2 := by
  unfold takeM
  split
  · exact h
  · intro x hx
    rcases List.mem_append.1 hx with hx | hx
    · have := h x hx
      exact ⟨⟨this.1.1, by have := this.1.2; show x.id ≤ S.next + 1; omega⟩, this.2⟩
    · rw [List.mem_singleton.1 hx]
      exact ⟨⟨h0, by show S.next ≤ S.next + 1; omega⟩, shaM_le _⟩
theorem SnIds.forget {S : SnM} (h : SnIds S) (id now : Int) : SnIds (sforgetM S id now).2 := by
  rcases sforget_eq S id now with e | ⟨k, e⟩
  · rw [e]; exact h
  · rw [e]
    intro x hx
    rcases List.mem_append.1 (show x ∈ S.l.take k ++ S.l.drop (k + 1) from hx) with hx | hx
    · exact h x (List.mem_of_mem_take hx)
    · exact h x (List.mem_of_mem_drop hx)
theorem SnIds.do_ {M : StM} (h : SnIds M.s) (h0 : 0 ≤ M.s.next) (x : OpM) : SnIds (sdoM M x).2.s := by
  have hc := sdo_chg M x
  generalize (sdoM M x).2 = M' at hc ⊢
  cases hc with
  | take => exact h.take h0 _
  | forget => exact h.forget _ _
  | tick h16 => exact h
  | same => exact h
  | make ls kind => exact h
  | create ls h1 h2 => exact h
  | opens T ls y h1 h2 h3 h4 h5 h6 => exact h
  | write f h1 => exact h
  | closes f h1 h2 h3 => exact h
  | shut f h1 h2 => exact h
  | link p q => exact h
  | unlink ls h1 h2 => exact h
  | rmdir ls => exact h
  | rename p q => exact h
  | keep ls h1 => exact h
theorem StOk.sv {c : Int} {M : StM} (h : StOk c M) (hc : c ≤ 1000000000) (hi : SnIds M.s) : SvOk M.s :=
  ⟨h.s.few, h.s.last, ⟨h.next.1, by have := h.next.2; omega⟩, fun x hx => by have := hi x hx; have := h.next.2; exact ⟨⟨by omega, by omega⟩, by omega⟩⟩
theorem saveSn_len {o : Mark} {i : Nat} {w : World} {s : Nat} {S : SnM} (hS : SnapsO o i w s S) (hv : SvOk S) : (saveSn S).length ≤ 50001000 := by
  obtain ⟨v, la, lc, vals, h1, h2, h3, h4, h5, h6, h7, h8⟩ := hS.at_
  have := ones_len h6 fun x hx => (hv.each x hx).2
  have := hv.few
  have := hv.last
  unfold saveSn
  simp only [List.length_append, beB_len, rowB_len]
  omega
section
variable {W w : World} {o : Mark} {i j k p : Nat} {M : StM} {c : Int}
set_option maxRecDepth 100000 in
set_option maxHeartbeats 8000000 in
theorem stsave_any (hS : StateO o i j k w p M) (hM : Marks W o w) (hok : StOk c M) (hv : SvOk M.s) : Calls Tryz.prog 13 #[ptr p] w (RetRow w (saveSt M)) := by
  obtain ⟨t, s, v, h1, h2, h3, h4⟩ := hS.at_
  have hlow := hS.low
  have HC := Lib.hid (committed_any h3 hM hok.t.1)
  have HM := Lib.hid hM
  have HSN := Lib.hid h2
  have HV := Lib.hid hv
  have HOK := Lib.hid hok.t.1.commitM
  have hnow := hok.now
  have HH : Hid (∀ w', Below w.heap.size w w' → w'.cell? ⟨p, 0, none⟩ = some (ptr t) ∧ w'.cell? ⟨p, 1, none⟩ = some (ptr s) ∧ w'.cell? ⟨p, 2, none⟩ = some (.int .u64 M.now)) := fun w' hb => by
    obtain ⟨z0, z1, z2, -⟩ := st_cells ((hb.block p hlow).trans h1)
    exact ⟨z0, z1, z2⟩
  obtain ⟨c0, c1, c2⟩ := HH.out w (Below.refl _ _)
  clear hS hM hok hv h1 h2 h3 h4
  go_enter Tryz.func13, Tryz.ntmps13
  go_wp2_with fail
  (with_reducible refine HC.out.mono ?_)
  rintro e w1 ⟨q, rfl, hT, hb1⟩
  have HT := Lib.hid hT
  have HB1 := Lib.hid hb1
  clear hT hb1 HC
  go_wp2_with fail
  (with_reducible refine (om_save HT.out HOK.out).mono ?_)
  rintro e w2 ⟨ba, bn, bc, rfl, hbc, hbr, hb2⟩
  have hsb := saveB_small HOK.out
  obtain ⟨C, hC⟩ : ∃ C, C = saveB (commitM M.t) := ⟨_, rfl⟩
  rw [← hC] at hbr hsb
  have HCE := Lib.hid hC
  have hbl : bn = C.length := by have := hbr.length; simpa using this.symm
  subst hbl
  have HBR := Lib.hid hbr
  have hb12 := HB1.out.trans (hb2.mono HB1.out.size)
  have HB2 := Lib.hid hb12
  obtain ⟨d0, d1, d2⟩ := HH.out w2 hb12
  clear hbr hb2 hb12 hC c0 c1 c2
  go_wp2_with fail
  (with_reducible refine (newWriter_any _).mono ?_)
  rintro e w3 ⟨rfl, hW3, hb3⟩
  have HW3 := Lib.hid hW3
  have HB3 := Lib.hid hb3
  have hb13 := HB2.out.trans (hb3.mono HB2.out.size)
  obtain ⟨e0, e1, e2⟩ := HH.out w3 hb13
  clear hW3 hb3 hb13 d0 d1 d2
  go_wp2_with fail
  (with_reducible refine (long_any HW3.out M.now hnow.1 (by omega) (by simp)).mono ?_)
  intro e w4 ht4
  obtain ⟨rfl, x4, hW4, hb4⟩ := SvRel.more HW3.out HB3.out ht4
  have HW4 := Lib.hid hW4
  have HB4 := Lib.hid hb4
  have hb14 := HB2.out.trans (hb4.mono HB2.out.size)
  obtain ⟨f0, f1, f2⟩ := HH.out w4 hb14
  have hcv := conv_iu (C.length : Int) (by omega) (by omega)
  clear ht4 hW4 hb4 hb14 e0 e1 e2 HW3
  go_wp2_with fail
  (with_reducible refine (long_any HW4.out (C.length : Int) (by omega) (by omega) (by simp [beB_len])).mono ?_)
  intro e w5 ht5
  obtain ⟨rfl, x5, hW5, hb5⟩ := SvRel.more HW4.out HB4.out ht5
  have HW5 := Lib.hid hW5
  have HB5 := Lib.hid hb5
  have hb15 := HB2.out.trans (hb5.mono HB2.out.size)
  obtain ⟨g0, g1, g2⟩ := HH.out w5 hb15
  have hbr5 := HBR.out.kept hb5.size (fun b hb _ => hb5.block b hb.2)
  clear ht5 hW5 hb5 hb15 f0 f1 f2 HW4 hcv
  go_wp2_with fail
  (with_reducible refine (raw_any HW5.out ba C.length bc C hbr5 (by simp [beB_len]) (by omega)).mono ?_)
  intro e w6 ht6
  obtain ⟨rfl, x6, hW6, hb6⟩ := SvRel.more HW5.out HB5.out ht6
  have HW6 := Lib.hid hW6
  have HB6 := Lib.hid hb6
  have hb16 := HB2.out.trans (hb6.mono HB2.out.size)
  have HB16 := Lib.hid hb16
  obtain ⟨k0, k1, k2⟩ := HH.out w6 hb16
  have HSN6 := Lib.hid (HSN.out.step (I := fun _ => False) (fun e => e) (fun e => e) (Step.grow HM.out hb16))
  have HM6 := Lib.hid (HM.out.grow hb16)
  have hsl := saveSn_len HSN6.out HV.out
  clear ht6 hW6 hb6 hb16 g0 g1 g2 HW5 hbr5
  go_wp2_with fail
  (with_reducible refine (ssave_any HSN6.out HM6.out HV.out).mono ?_)
  rintro e w7 ⟨sa, sn, sc, rfl, hsc, hsr, hb7⟩
  have HSR := Lib.hid hsr
  have HW7 := Lib.hid (HW6.out.below hb7)
  have HB7 := Lib.hid (HB6.out.trans (hb7.mono HB6.out.size))
  have hsl2 : sn = (saveSn M.s).length := by have := hsr.length; simpa using this.symm
  subst hsl2
  clear hsr hb7 HW6
  go_wp2_with fail
  (with_reducible refine (raw_any HW7.out sa (saveSn M.s).length sc (saveSn M.s) HSR.out (by simp [beB_len]; omega) (by omega)).mono ?_)
  intro e w8 ht8
  obtain ⟨rfl, x8, hW8, hb8⟩ := SvRel.more HW7.out HB7.out ht8
  have HW8 := Lib.hid hW8
  have HB8 := Lib.hid hb8
  clear ht8 hW8 hb8 HW7
  go_wp2_with fail
  (with_reducible refine (done_any HW8.out (by simp [beB_len]; omega)).mono ?_)
  rintro e w9 ⟨ra, rn, rc, rfl, hrc, hrr, hb9⟩
  have HRR := Lib.hid hrr
  have HB9 := Lib.hid hb9
  clear hrr hb9
  go_wp2_with fail
  go_ret
  have hs2 := HB2.out.size
  have hs8 := HB8.out.size
  refine ⟨ra, rn, rc, rfl, hrc, ?_, (HB2.out.trans (HB8.out.mono hs2)).trans (HB9.out.mono (by omega))⟩
  have e : [] ++ beB M.now 8 ++ beB (C.length : Int) 8 ++ C ++ saveSn M.s = saveSt M := by
    rw [HCE.out]
    unfold saveSt
    simp
  have h9 := HRR.out
  rw [e] at h9
  exact h9.mono fun b hb => ⟨by omega, hb.2⟩
end
end Go.Proofs.YtmabllemjkcobaaGreatDoor
