/- permafrostkeep.Names. permafrostbook.Same at texts. permafrostkeep.Cut. A drawn region taken by hand: the condition S may be made stronger on the way. -/
import Derived.Test.YtbapdoicejakhaaGreatM09
import Derived.Test.YtbapdoicejakhaaGreatM37
import Derived.Deep.CutBlock
import Derived.Deep.DeepCutAuto
import Derived.Test.YtbapdoicejakhaaGreatM21
import Derived.BigQuiet
import Derived.Deep.QuietTactic
import Derived.Test.YtbapdoicejakhaaGreatM01
import Derived.Deep.RegionHeld3
namespace Go.Proofs.YtbapdoicejakhaaGreat
open Go.ChangeShapes Go.WideShapes Go.ChangeAt Go.RowKit
set_option linter.unusedVariables false
set_option linter.unusedSimpArgs false

/-- The names that are drawn from. -/
def namesTab : List (List Nm) := [[[97]], [[98]], [[99]], [[97], [97]], [[97], [98]], [[98], [97]], [[98], [98], [97]], [], [[99], [97]], [[98], [98]], [[65]], [[97], []], [[46]]]
def allocAll (w : World) : List Obj → World
  | [] => w
  | o :: r => allocAll (w.alloc o) r
theorem allocAll_below : ∀ (os : List Obj) (w w0 : World), w0.heap.size ≤ w.heap.size → Below w0.heap.size w0 w → Below w0.heap.size w0 (allocAll w os)
  | [], w, w0, _, h => h
  | o :: r, w, w0, hs, h => allocAll_below r (w.alloc o) w0 (by simp; omega) (h.alloc hs o)
theorem allocAll_size : ∀ (os : List Obj) (w : World), (allocAll w os).heap.size = w.heap.size + os.length
  | [], w => rfl
  | o :: r, w => by
    show (allocAll (w.alloc o) r).heap.size = _
    rw [allocAll_size r, World.size_alloc, List.length_cons]
    omega
theorem allocAll_get : ∀ (os : List Obj) (w : World) (i : Nat) (o : Obj), os[i]? = some o → (allocAll w os).heap[w.heap.size + i]? = some o
  | [], w, i, o, h => by simp at h
  | x :: r, w, 0, o, h => by
    simp only [List.getElem?_cons_zero, Option.some.injEq] at h
    subst h
    have h1 := allocAll_below r (w.alloc x) (w.alloc x) (Nat.le_refl _) (Below.refl _ _)
    exact (h1.block w.heap.size (by simp)).trans (MapKept.heap_alloc w x).1
  | x :: r, w, i + 1, o, h => by
    have := allocAll_get r (w.alloc x) i o (by simpa using h)
    rw [World.size_alloc] at this
    rw [show w.heap.size + (i + 1) = w.heap.size + 1 + i by omega]
    exact this
/-- A slice of names, in new memory. -/
def NewNames (w : World) (ls : List Nm) (e : Ending) (w' : World) : Prop :=
  ∃ a c, e = .returned (.slice a ls.length c) ∧ ls.length ≤ c ∧ StrsAt (fun x => w.heap.size ≤ x ∧ x < w'.heap.size) w' a ls.length (ls.map strOf) ∧ Below w.heap.size w w'
def NamesMade (w : World) (v : Value) (wx : World) : Prop :=
  ∃ g, v = .slice (some ⟨g, 0, none⟩) 13 13 ∧ g < wx.heap.size ∧ Below w.heap.size w wx ∧ ∀ (j : Nat) (ls : List Nm), namesTab[j]? = some ls → ∃ a c, wx.cell? ⟨g, j, none⟩ = some (.slice a ls.length c) ∧ ls.length ≤ c ∧ StrsAt (fun x => w.heap.size ≤ x ∧ x < wx.heap.size) wx a ls.length (ls.map strOf)
def namesCells (ls : List Nm) : Obj := .cells (ls.map fun n => Value.string (strOf n)).toArray 9
theorem names_at {w0 w : World} {g : Nat} {ls : List Nm} (h : w.heap[g]? = some (namesCells ls)) (hg : w0.heap.size ≤ g) (hs : ls.length ≤ 3) (hl : ∀ n ∈ ls, n.length ≤ 3) : StrsAt (fun x => w0.heap.size ≤ x ∧ x < w.heap.size) w (some ⟨g, 0, none⟩) ls.length (ls.map strOf) := by
  have hgw := (Array.getElem?_eq_some_iff.1 h).1
  refine ⟨⟨by simp, by unfold maxLen; omega, fun _ => ⟨g, 0, rfl, ⟨hg, hgw⟩, hgw, fun i hi => ?_⟩⟩, fun s hs' => ?_⟩
  · simp only [World.cell?, h, namesCells]
    simp
    rfl
  · obtain ⟨n, hn, rfl⟩ := List.mem_map.1 hs'
    rw [strOf_size]
    have := hl n hn
    unfold maxLen; omega
/-- The outer row. -/
def namesRow (B : Nat) : List Value := [.slice (some ⟨B, 0, none⟩) 1 1, .slice (some ⟨B + 1, 0, none⟩) 1 1, .slice (some ⟨B + 2, 0, none⟩) 1 1, .slice (some ⟨B + 3, 0, none⟩) 2 2, .slice (some ⟨B + 4, 0, none⟩) 2 2, .slice (some ⟨B + 5, 0, none⟩) 2 2, .slice (some ⟨B + 6, 0, none⟩) 3 3, .slice none 0 0, .slice (some ⟨B + 7, 0, none⟩) 2 2, .slice (some ⟨B + 8, 0, none⟩) 2 2, .slice (some ⟨B + 9, 0, none⟩) 1 1, .slice (some ⟨B + 10, 0, none⟩) 2 2, .slice (some ⟨B + 11, 0, none⟩) 1 1]
def namesObjs (B : Nat) : List Obj := [namesCells [[97]], namesCells [[98]], namesCells [[99]], namesCells [[97], [97]], namesCells [[97], [98]], namesCells [[98], [97]], namesCells [[98], [98], [97]], namesCells [[99], [97]], namesCells [[98], [98]], namesCells [[65]], namesCells [[97], []], namesCells [[46]], .cells (namesRow B).toArray 36]
theorem names_made (w : World) : NamesMade w (.slice (some ⟨w.heap.size + 12, 0, none⟩) 13 13) (allocAll w (namesObjs w.heap.size)) := by
  have hsz := allocAll_size (namesObjs w.heap.size) w
  have hl : (namesObjs w.heap.size).length = 13 := rfl
  rw [hl] at hsz
  refine ⟨w.heap.size + 12, rfl, by omega, allocAll_below _ w w (Nat.le_refl _) (Below.refl _ _), fun j ls hj => ?_⟩
  have hcell : ∀ v, (namesRow w.heap.size)[j]? = some v → (allocAll w (namesObjs w.heap.size)).cell? ⟨w.heap.size + 12, j, none⟩ = some v := fun v hv => by
    have := allocAll_get (namesObjs w.heap.size) w 12 _ rfl
    simp only [World.cell?, this]
    simpa using hv
  have key : ∀ (i n : Nat) (ls' : List Nm), (namesObjs w.heap.size)[i]? = some (namesCells ls') → (namesRow w.heap.size)[j]? = some (.slice (some ⟨w.heap.size + i, 0, none⟩) n n) → ls'.length = n → ls'.length ≤ 3 → (∀ x ∈ ls', x.length ≤ 3) → ls' = ls →
      ∃ a c, (allocAll w (namesObjs w.heap.size)).cell? ⟨w.heap.size + 12, j, none⟩ = some (.slice a ls.length c) ∧ ls.length ≤ c ∧ StrsAt (fun x => w.heap.size ≤ x ∧ x < (allocAll w (namesObjs w.heap.size)).heap.size) (allocAll w (namesObjs w.heap.size)) a ls.length (ls.map strOf) := fun i n ls' h1 h2 h3 h4 h5 h6 => by
    subst h6
    exact ⟨_, n, by rw [h3]; exact hcell _ h2, by omega, names_at (allocAll_get _ w i _ h1) (by omega) h4 h5⟩
  match j, hj with
  | 0, hj => exact key 0 1 [[97]] rfl rfl rfl (by decide) (by decide) (Option.some.inj hj)
  | 1, hj => exact key 1 1 [[98]] rfl rfl rfl (by decide) (by decide) (Option.some.inj hj)
  | 2, hj => exact key 2 1 [[99]] rfl rfl rfl (by decide) (by decide) (Option.some.inj hj)
  | 3, hj => exact key 3 2 [[97], [97]] rfl rfl rfl (by decide) (by decide) (Option.some.inj hj)
  | 4, hj => exact key 4 2 [[97], [98]] rfl rfl rfl (by decide) (by decide) (Option.some.inj hj)
  | 5, hj => exact key 5 2 [[98], [97]] rfl rfl rfl (by decide) (by decide) (Option.some.inj hj)
  | 6, hj => exact key 6 3 [[98], [98], [97]] rfl rfl rfl (by decide) (by decide) (Option.some.inj hj)
  | 7, hj =>
    have : ([] : List Nm) = ls := Option.some.inj hj
    subst this
    exact ⟨none, 0, hcell _ rfl, Nat.le_refl _, ⟨RowAt.nil _ _ _, by simp⟩⟩
  | 8, hj => exact key 7 2 [[99], [97]] rfl rfl rfl (by decide) (by decide) (Option.some.inj hj)
  | 9, hj => exact key 8 2 [[98], [98]] rfl rfl rfl (by decide) (by decide) (Option.some.inj hj)
  | 10, hj => exact key 9 1 [[65]] rfl rfl rfl (by decide) (by decide) (Option.some.inj hj)
  | 11, hj => exact key 10 2 [[97], []] rfl rfl rfl (by decide) (by decide) (Option.some.inj hj)
  | 12, hj => exact key 11 1 [[46]] rfl rfl rfl (by decide) (by decide) (Option.some.inj hj)
  | j + 13, hj => simp [namesTab] at hj
/-- Which one. -/
def namesI (n : Int) : Nat := (withinI n 0 1048576 % 13).toNat
def namesL (n : Int) : List Nm := namesTab.getD (namesI n) []
theorem namesL_small (n : Int) : (namesL n).length ≤ 3 := by
  unfold namesL
  rw [List.getD_eq_getElem?_getD]
  cases h : namesTab[namesI n]? with
  | none => simp
  | some ls =>
    have := List.mem_of_getElem? h
    revert ls
    intro ls _ hm
    have : ∀ l ∈ namesTab, l.length ≤ 3 := by decide
    exact this ls hm
set_option maxHeartbeats 4000000 in
theorem names_any (n : Int) (hn : (Lit.int .i64 n).wf = true) (w : World) : Calls Tryz.prog 46 #[.int .i64 n] w (NewNames w (namesL n)) := by
  have hw := withinI_bd n 0 1048576 (by omega)
  have HW := Lib.hid (fun w1 => within_any n 0 1048576 w1 hn (by omega) (by omega) (by omega))
  have hI : (namesI n : Int) = withinI n 0 1048576 % 13 := by unfold namesI; omega
  have hI2 : namesI n < 13 := by unfold namesI; omega
  obtain ⟨ls, hls⟩ : ∃ ls, namesTab[namesI n]? = some ls := ⟨_, List.getElem?_eq_getElem (show namesI n < namesTab.length by simpa [namesTab] using hI2)⟩
  have hL : namesL n = ls := by unfold namesL; rw [List.getD_eq_getElem?_getD, hls]; rfl
  rw [hL]
  generalize withinI n 0 1048576 = v at *
  generalize namesI n = j at *
  have HLS := Lib.hid hls
  have e1 : v % 13 = (j : Int) := hI.symm
  have j0 : (0 : Int) ≤ j := by omega
  have j1 : (j : Int) < 13 := by omega
  clear hls hL hI hn
  go_enter Tryz.func46, Tryz.ntmps46
  go_upto_region 1 with (fail)
  go_cut [3] from 4 to 16 (fun v wx => NamesMade w v wx)
  case first =>
    go_wp2_with fail
    go_meet
    exact names_made w
  case rest =>
    obtain ⟨g, rfl, hg, hB, hc⟩ := hcut
    obtain ⟨w1, rfl⟩ : ∃ w1 : World, w1 = wc := ⟨_, rfl⟩
    obtain ⟨a, c, hc1, hc2, hc3⟩ := hc j ls HLS.out
    have HS := Lib.hid hc3
    have HB := Lib.hid hB
    clear hc hc3 hB
    go_wp2_with fail
    (with_reducible refine (HW.out _).mono ?_)
    rintro e w2 ⟨rfl, rfl⟩
    go_wp2_with fail
    go_ret
    exact ⟨a, c, rfl, hc2, HS.out, HB.out⟩
end Go.Proofs.YtbapdoicejakhaaGreat
namespace Go.Proofs.YtbapdoicejakhaaGreat
open Go.ChangeShapes Go.WideShapes Go.ChangeAt Go.RowKit
set_option linter.unusedVariables false

theorem same_any {S S' : Nat → Prop} (a a' : Option Addr) (len cap len' cap' : Nat) (ss ss' : List ByteArray) (w : World) (h : StrsAt S w a len ss) (h' : StrsAt S' w a' len' ss') :
    Calls Tryz.prog 54 #[.slice a len cap, .slice a' len' cap'] w fun e w' => e = .returned (.bool (decide (ss = ss'))) ∧ Below w.heap.size w w' := by
  have hl := h.length
  have hl' := h'.length
  have hm := h.row.small
  have hm' := h'.row.small
  unfold maxLen at hm hm'
  by_cases hne : len = len'
  · subst hne
    have HL := Lib.hid hl
    have HL' := Lib.hid hl'
    clear hl hl'
    go_enter Tryz.func54, Tryz.ntmps54
    go_wp2
    go_loopw [5] (fun i wr => ∃ k : Nat, k ≤ len ∧ i = .int .i64 k ∧ ss.take k = ss'.take k ∧ Below w.heap.size w wr) (fun i _ => len - (intOf i).toNat)
    case atStart => exact ⟨0, by omega, rfl, rfl, Below.refl _ _⟩
    case round =>
      obtain ⟨k, hk, rfl, ht, hb⟩ := hrel
      have HT := Lib.hid ht
      clear ht
      by_cases hlt : k < len
      · obtain ⟨b, off, x, rfl, _, _, hx, _, hc⟩ := (h.below hb (Nat.le_refl _)).cell k hlt
        obtain ⟨b', off', y, rfl, _, _, hy, _, hc'⟩ := (h'.below hb (Nat.le_refl _)).cell k hlt
        have HX := Lib.hid hx
        have HY := Lib.hid hy
        clear hx hy h h'
        have hk0 : (0 : Int) ≤ (k : Int) := by omega
        have hk1 : (k : Int) < (len : Int) := by omega
        by_cases hxy : x = y
        · subst hxy
          go_wp2
          go_quiet (fail)
          go_wp2
          go_roundw
          case rel => exact ⟨k + 1, by omega, by go_num, take_succ_eq HT.out HX.out HY.out, hb.trans ⟨rfl, rfl, rfl, Nat.le_refl _, fun _ _ => rfl⟩⟩
          case measure => simp [intOf]; omega
        · have hxl := toList_ne hxy
          have HN := Lib.hid hxy
          clear hxy
          go_wp2
          go_quiet (fail)
          go_wp2
          go_ret
          exact ⟨ret_bool (by simp [getElem_ne_of HX.out HY.out HN.out]), hb.trans ⟨rfl, rfl, rfl, Nat.le_refl _, fun _ _ => rfl⟩⟩
      · go_wp2
        go_ret
        refine ⟨ret_bool ?_, hb⟩
        have := HT.out
        rw [List.take_of_length_le (by have := HL.out; omega), List.take_of_length_le (by have := HL'.out; omega)] at this
        simp [this]
  · have hne' : ss ≠ ss' := fun e => hne (by rw [← hl, ← hl', e])
    have HN := Lib.hid hne'
    have hb0 : ((len : Int) != (len' : Int)) = true := by simp; omega
    clear hl hl' hne hne'
    go_enter Tryz.func54, Tryz.ntmps54
    go_wp2
    go_ret
    exact ⟨ret_bool (by simp [HN.out]), Below.refl _ _⟩
end Go.Proofs.YtbapdoicejakhaaGreat
namespace Go.Proofs.YtbapdoicejakhaaGreat
open Go.ChangeShapes Go.WideShapes Go.ChangeAt Go.RowKit
set_option linter.unusedVariables false

theorem cut_any (a : Option Addr) (len cap n : Nat) (hl : len ≤ cap) (hn : n ≤ 1048576) (hm : len ≤ maxLen) (w : World) :
    Calls Tryz.prog 45 #[.slice a len cap, .int .i64 n] w fun e w' => e = .returned (.slice a (min len n) cap) ∧ w = w' := by
  unfold maxLen at hm
  by_cases h : n < len
  · have e1 : n ≤ cap := by omega
    go_enter Tryz.func45, Tryz.ntmps45
    go_wp2
    go_ret
    rw [show min len n = n by omega]
    exact ⟨rfl, rfl⟩
  · go_enter Tryz.func45, Tryz.ntmps45
    go_wp2
    go_ret
    rw [show min len n = len by omega]
    exact ⟨rfl, rfl⟩

end Go.Proofs.YtbapdoicejakhaaGreat
namespace Go.Proofs.YtbapdoicejakhaaGreat
theorem wpAnyH_mono {P : Program} {md : Region.Mode} {ops : Array Oper} {Q : Exit → Act → World → Prop} {S S' : World → Prop} (h : ∀ w, S' w → S w) :
    ∀ (fuel : Nat) (listed : Array Bool) (a : Act) (w : World), wpAnyH P md ops Q S' fuel listed a w → wpAnyH P md ops Q S fuel listed a w
  | 0, _, _, _, hw => hw
  | fuel + 1, _, _, _, hw => ⟨hw.1, fun i hi => wpOp_mono (fun _ _ h' => ⟨h _ h'.1, wpAnyH_mono h fuel _ _ _ h'.2⟩) (hw.2 i hi)⟩
end Go.Proofs.YtbapdoicejakhaaGreat
