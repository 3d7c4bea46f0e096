/- DERIVED: THE SHELF's CONTRACTS AT THIS DUMP, IN PLAIN WORDS (tools/lay-plain.mjs out of 'YtmabllemjkcobaaGreatDoorLaypDropLay.lean', which tools/lay-shelf.mjs wrote): THE SAME DECLARATIONS UNDER THE SAME NAMES: 'import', 'namespace', 'open', 'def', 'theorem' AND NOTHING ELSE: no command of the shelf's: FOR A HAND-IN. Each laying: the table of numbers ('.._ren') and one theorem, a field a fact of the dump's own or the kernel's comparison; each contract: ONE APPLICATION. maps.DeleteFunc of a directory's names: those of one node go. tree: Drop. -/
import Derived.Test.YtmabllemjkcobaaGreatDoorProg
import Derived.Shelf.SlMaps.DeleteFunc
import Derived.Ground.SlmdProg
import Derived.Test.YtmabllemjkcobaaGreatDoorM18
namespace Go.Proofs
open Go.Shelf
def Tryz.delT_ren : Go.Shelf.Ren := ⟨fun | 5 => 185 | n => n, fun | 23 => 92 | 26 => 9 | 24 => 3 | 27 => 230 | 0 => 0 | 4 => 4 | n => n, fun | n => n⟩
theorem Tryz.delT : Go.Proofs.SlLaysDf.n5 Tryz.prog Tryz.delT_ren := {
  mixed := by kernel_rfl
  f5 := ⟨Tryz.f185.name, by decide, Tryz.func185.trans (congrArg some (by kernel_rfl))⟩
  t0 := Tryz.underlying0
  a0 := Tryz.isAgg0
  z0 := Tryz.sizeOf0
  v0 := Tryz.zeroValue0
  t4 := Tryz.underlying4
  a4 := Tryz.isAgg4
  z4 := Tryz.sizeOf4
  v4 := Tryz.zeroValue4
  t23 := Tryz.underlying92
  a23 := Tryz.isAgg92
  z23 := Tryz.sizeOf92
  v23 := Tryz.zeroValue92
  a24 := Tryz.isAgg3
  z24 := Tryz.sizeOf3
  a26 := Tryz.isAgg9
  z26 := Tryz.sizeOf9
  t27 := Tryz.underlying230
  a27 := Tryz.isAgg230
  z27 := Tryz.sizeOf230
  v27 := Tryz.zeroValue230 }
end Go.Proofs
namespace Go.Proofs.YtmabllemjkcobaaGreatDoor
open Go.ChangeShapes Go.WideShapes Go.ChangeAt Go.RowKit Go.MapKept
open Go.WideElems (Fit rd rg pl rd_key rd_val rg_of other_key)
set_option linter.unusedVariables false
set_option linter.unusedSimpArgs false

/-- An element that is an int. -/
def intE (v : Value) : Option (DataW Value × List MemPlace) := match v with | .int .i64 i => some (.held v, []) | _ => none
theorem intE_raw {v : Value} {z : DataW Value × List MemPlace} (h : intE v = some z) : ∃ i, v = .int .i64 i ∧ z = (.held (.int .i64 i), []) := by
  unfold intE at h
  split at h
  · exact ⟨_, rfl, (Option.some.inj h).symm⟩
  · cases h
theorem MapAt.toInt {w : World} {b : Nat} {l : List (Nm × Value)} (h : MapAt strK w b l) (hl : ∀ p ∈ l, ∃ i, p.2 = .int .i64 i) : w.ownsMap Tryz.prog 9 intE b l.length (toD strK l) := by
  obtain ⟨es, clock, hb, F, hs, hD⟩ := h
  have key : ∀ x ∈ es.toList, ∃ i, x.val = .int .i64 i := by
    intro x hx
    obtain ⟨y, hy⟩ := F.reads x hx
    have h1 : (rg Tryz.prog 9 rawE x) ∈ (es.toList.map (rg Tryz.prog 9 rawE)).foldr DataW.insert [] := (sorted_perm _).mem_iff.2 (List.mem_map.2 ⟨x, hx, rfl⟩)
    simp only [toD, DataW.map.injEq] at hD
    rw [← hD] at h1
    obtain ⟨q, hq, e1⟩ := List.mem_map.1 h1
    obtain ⟨i, hi⟩ := hl q hq
    obtain ⟨z, hz, e2⟩ := rd_val hy
    rw [rg_of hy] at e1
    simp only [rawE, Option.some.injEq] at hz
    refine ⟨i, ?_⟩
    rw [← hz] at e2
    have e3 := congrArg Prod.snd e1
    rw [e2] at e3
    simp only [DataW.held.injEq] at e3
    rw [← e3, hi]
  have hrd : ∀ x ∈ es.toList, rd Tryz.prog 9 intE x = rd Tryz.prog 9 rawE x := by
    intro x hx
    obtain ⟨i, hi⟩ := key x hx
    unfold rd
    rw [hi]; rfl
  refine ⟨es, clock, hb, ⟨F.size, F.stamped, fun x hx => ?_⟩, hs, ?_⟩
  · rw [hrd x hx]; exact F.reads x hx
  · have e : es.toList.map (rg Tryz.prog 9 rawE) = es.toList.map (rg Tryz.prog 9 intE) := by
      apply List.map_congr_left
      intro x hx
      unfold rg
      rw [hrd x hx]
    rw [hD, e]
theorem toRaw {w : World} {b n : Nat} {D : DataW Value} (h : w.ownsMap Tryz.prog 9 intE b n D) : w.ownsMap Tryz.prog 9 rawE b n D := by
  obtain ⟨es, clock, hb, F, hs, hD⟩ := h
  have hrd : ∀ x ∈ es.toList, rd Tryz.prog 9 rawE x = rd Tryz.prog 9 intE x := by
    intro x hx
    obtain ⟨y, hy⟩ := F.reads x hx
    obtain ⟨z, hz, _⟩ := rd_val hy
    obtain ⟨i, hi, _⟩ := intE_raw hz
    unfold rd
    rw [hi]; rfl
  refine ⟨es, clock, hb, ⟨F.size, F.stamped, fun x hx => ?_⟩, hs, ?_⟩
  · rw [hrd x hx]; exact F.reads x hx
  · have e : es.toList.map (rg Tryz.prog 9 intE) = es.toList.map (rg Tryz.prog 9 rawE) := by
      apply List.map_congr_left
      intro x hx
      unfold rg
      rw [hrd x hx]
    rw [hD, e]

/-- Is an element this ID? -/
def isId (id : Int) (_ : Lit) (d : DataW Value) : Bool := match d with | .held (.int .i64 k) => decide (k = id) | _ => false
theorem drop1_any (id : Int) (vb : Nat) (key : Value) (k : Int) (w : World) (hc : w.cell? ⟨vb, 0, none⟩ = some (.int .i64 id)) :
    Calls Tryz.prog 186 #[key, .int .i64 k, ptr vb] w fun e w' => e = .returned (.bool (decide (k = id))) ∧ w = w' := by
  go_enter Tryz.func186, Tryz.ntmps186
  go_wp2_with fail
  go_ret
  exact ⟨ret_bool (by by_cases h : k = id <;> simp [h]), rfl⟩
theorem delD (id : Int) (l : List (Nm × Int)) : Lib.deleteFuncD (isId id) (toD strK (l.map fun e => (e.1, (.int .i64 e.2 : Value)))) = toD strK ((l.filter fun e => !decide (e.2 = id)).map fun e => (e.1, (.int .i64 e.2 : Value))) := by
  unfold toD Lib.deleteFuncD
  simp only [List.map_map, DataW.map.injEq]
  rw [List.filter_map]
  rfl
theorem delf_some (id : Int) (vb b : Nat) (x : ItM) (w : World) (hM : MapAt strK w b (nameL x)) (hc : w.cell? ⟨vb, 0, none⟩ = some (.int .i64 id)) (hvb : vb ≠ b) (hvw : vb < w.heap.size) :
    Calls Tryz.prog 185 #[.map (some b), .func (.func 186) #[] #[ptr vb]] w fun e w' => e = .returned (.tuple #[]) ∧ MapAt strK w' b (nameL (stripI id x)) ∧ Keeps (fun y => y = b) w w' := by
  refine (AnyDf.maps_DeleteFunc Tryz.delT strK.law intE (isId id) 186 #[ptr vb] b _ _ w ?_ (hM.toInt fun q hq => ?_) fun W key val kl yd yp hg hk hv => ?_).mono ?_
  · exact enters_of Tryz.func186 (by kernel_rfl) rfl
  · obtain ⟨e, _, rfl⟩ := List.mem_map.1 hq
    exact ⟨_, rfl⟩
  · obtain ⟨i, rfl, hz⟩ := intE_raw hv
    cases hz
    refine (drop1_any id vb key i W ?_).mono ?_
    · rw [World.cell?_of_block (w := w) (w' := W) (a := ⟨vb, 0, none⟩) (hg.block vb hvw (fun e => hvb (Option.some.inj e)))]; exact hc
    · rintro e w' ⟨rfl, rfl⟩
      exact ⟨rfl, rfl, rfl, rfl, Nat.le_refl _, fun _ _ _ => rfl⟩
  · rintro e w' ⟨rfl, h1, h2⟩
    refine ⟨rfl, ?_, (Keeps.grown h2).mono fun z _ hz => by simpa using hz.symm⟩
    have h3 := toRaw h1
    unfold nameL at h3
    rw [delD] at h3
    exact MapAt.of_owns h3
theorem delf_nil (f : Value) (w : World) : Calls Tryz.prog 185 #[.map none, f] w fun e w' => e = .returned (.tuple #[]) ∧ Below w.heap.size w w' := by
  go_enter Tryz.func185, Tryz.ntmps185
  go_wp2_with (first | (at_range; refine wpList_range_nil rfl _ 92 9 3 rfl Tryz.underlying92 rfl ?_))
  go_frame
  go_loopw [4, 5] (fun _ _ wr => wr = w.alloc (.mapIter none 0 #[] 0)) (fun _ _ wr => 0)
  case atStart => exact rfl
  case round =>
    obtain rfl := hrel
    go_wp2_with (first | (at_next; refine wpList_next_nil rfl _ rfl rfl (MapKept.heap_alloc w _).1 ?_))
    go_end0
    exact ⟨rfl, wall w _⟩
end Go.Proofs.YtmabllemjkcobaaGreatDoor
namespace Go.Proofs.YtmabllemjkcobaaGreatDoor
open Go.ChangeShapes Go.WideShapes Go.ChangeAt Go.RowKit
set_option linter.unusedVariables false
set_option linter.unusedSimpArgs false

/-- The names of one are gone, where the walk has been. -/
def stripL (left : Int → Bool) (T : TrM) (id : Int) : TrM := T.map fun q => (q.1, if left q.1 = true then q.2 else stripI id q.2)
theorem stripL_get (left : Int → Bool) (T : TrM) (id k : Int) : aget k (stripL left T id) = (aget k T).map fun x => if left k = true then x else stripI id x := by
  unfold stripL
  exact aget_mapK (fun k x => if left k = true then x else stripI id x) k T
theorem stripL_start {left : Int → Bool} {T : TrM} {id : Int} (h : ∀ q ∈ T, left q.1 = true) : stripL left T id = T := by
  unfold stripL
  conv => rhs; rw [← List.map_id T]
  apply List.map_congr_left
  intro q hq
  rw [if_pos (h q hq)]; rfl
theorem stripL_end {left : Int → Bool} {T : TrM} {id : Int} (h : ∀ k, left k = false) : stripL left T id = stripM T id := by
  unfold stripL stripM stripI
  apply List.map_congr_left
  intro q hq
  rw [if_neg (by rw [h]; decide)]
theorem stripL_step {left : Int → Bool} {T : TrM} {id k : Int} (h : left k = true) : amod k (stripI id) (stripL left T id) = stripL (fun z => left z && !decide (z = k)) T id := by
  unfold stripL amod
  rw [List.map_map]
  apply List.map_congr_left
  intro q hq
  by_cases hk : q.1 = k
  · simp [hk, h]
  · simp [hk]
section
variable {g : Nat → Own} {D : Nat → Prop} {p mb : Nat} {ib nb : Int → Nat} {T : TrM}
theorem strip_at {w w' : World} {k id : Int} {x : ItM} (h : TreeAt g D w p mb ib nb T) (hx : aget k T = some x) (hk : x.kind = 2) (hM : MapAt strK w' (nb k) (nameL (stripI id x))) (hK : Keeps (fun b => b = nb k) w w') : TreeAt g D w' p mb ib nb (Go.Proofs.YtmabllemjkcobaaGreatDoor.amod k (stripI id) T) := by
  have hn := h.tagn k x hx hk
  have ti := h.tagi k x hx
  have hb : ∀ b, b < w.heap.size → g b ≠ .names k → w'.heap[b]? = w.heap[b]? := fun b hb h2 => hK.block b hb (fun e => h2 (by rw [show b = nb k from e]; exact hn))
  refine h.amod hx rfl (fun _ h => h) (fun b hb => ⟨h.data b hb, Nat.lt_of_lt_of_le (h.dlow b hb) hK.size⟩) hK.size (fun b hb1 h1 h2 => hb b hb1 h2) ?_
  obtain ⟨a, c, h1, h2, h3⟩ := (h.item k x hx).cells
  exact ⟨⟨a, c, (hb _ (h.low _ (by rw [ti]; simp)) (by rw [ti]; simp)).trans h1, h2, h3.kept hK.size fun b hD hbw => hb b hbw (by rw [h.data b hD]; simp)⟩, fun _ => hM⟩
theorem strip_file {w : World} {k id : Int} {x : ItM} (h : TreeAt g D w p mb ib nb T) (hx : aget k T = some x) (hk : x.kind ≠ 2) : TreeAt g D w p mb ib nb (Go.Proofs.YtmabllemjkcobaaGreatDoor.amod k (stripI id) T) := by
  refine h.amod hx rfl (fun _ h => h) (fun b hb => ⟨h.data b hb, h.dlow b hb⟩) (Nat.le_refl _) (fun _ _ _ _ => rfl) ?_
  obtain ⟨a, c, h1, h2, h3⟩ := (h.item k x hx).cells
  exact ⟨⟨a, c, h1, h2, h3⟩, fun h => absurd h hk⟩
end
section
variable {g : Nat → Own} {D : Nat → Prop} {p mb : Nat} {ib nb : Int → Nat} {T : TrM}
/-- While Drop runs: B: the size when the loop begins. -/
def DropRel (g : Nat → Own) (D : Nat → Prop) (w : World) (p mb : Nat) (ib nb : Int → Nat) (T : TrM) (id : Int) (r : Nat) (wr : World) : Prop :=
  ∃ (left : Int → Bool) (cnt : Nat), RangeAt intK wr mb r (T.map fun q => (q.1, ptr (ib q.1))) left cnt ∧ TreeAt g D wr p mb ib nb (stripL left T id) ∧ wr.cell? ⟨w.heap.size, 0, none⟩ = some (.int .i64 id) ∧ Keeps (fun b => g b ≠ .none) w wr ∧ w.heap.size < wr.heap.size
set_option maxRecDepth 100000 in
set_option maxHeartbeats 4000000 in
theorem drop_ok (id : Int) (hT : OkM T) (hd : dropE T id = 0) (w : World) (h : TreeAt g D w p mb ib nb T) (hid : (Lit.int .i64 id).wf = true) :
    Calls Tryz.prog 117 #[ptr p, .int .i64 id] w (Turn g D w p mb (dropM T id).2 (.int .i64 (dropM T id).1)) := by
  have hdm : dropM T id = (0, adel id (stripM T id)) := by
    unfold dropM
    rw [hd, dropOk_eq, if_pos rfl]
  have HM := Lib.hid hdm
  clear hdm
  obtain ⟨x, hx, hk, hcl⟩ := dropE_zero hd
  have HH := Lib.hid h
  have HT := Lib.hid hT
  have hcb : (w.alloc (.cells #[.int .i64 id] 3)).cell? ⟨w.heap.size, 0, none⟩ = some (.int .i64 id) := slice_cell
  have hA := h.below (wall w (.cells #[.int .i64 id] 3)) (Nat.le_refl _)
  have HA := Lib.hid hA
  have HF := Lib.hid (file_ok id hx hk _ hA hid)
  obtain ⟨c0, c1, c2, c3, c4, c5, c7, hiw⟩ := (hA.item id x hx).cell
  rw [hcl] at c5
  have q0 := hA.cell.1
  have HMAP := Lib.hid hA.map
  have HW := Lib.hid hid
  clear hcl hx hk h c7 hA hd hT hid
  go_enter Tryz.func117, Tryz.ntmps117
  go_wp2_with fail
  (with_reducible refine HF.out.mono ?_)
  rintro e w1 ⟨rfl, rfl⟩
  go_wp2_with (at_range; refine wpList_range intK rfl _ 95 88 rfl Tryz.underlying95 rfl HMAP.out ?_; intro w0 hR0 hB0 hs0)
  go_frame
  rw [World.size_alloc] at hR0 hB0 hs0
  rw [World.size_alloc]
  go_loopw [8] (fun _ wr => DropRel g D w p mb ib nb T id (w.heap.size + 1) wr) (fun _ wr => wr.rangeLeft mb (w.heap.size + 1))
  case atStart =>
    refine ⟨_, _, hR0, ?_, ?_, ?_, by omega⟩
    · rw [stripL_start (fun q hq => by rw [aget_ptr, aget_of_mem iltLaws HT.out.sorted hq]; rfl)]
      exact HA.out.below hB0 (by rw [World.size_alloc]; omega)
    · rw [World.cell?_of_block (w := w.alloc (.cells #[.int .i64 id] 3)) (w' := w0) (a := ⟨w.heap.size, 0, none⟩) (hB0.block _ (by show w.heap.size < _; omega))]
      exact slice_cell
    · exact below_keeps ((wall w _).trans (hB0.mono (by omega)))
  case round =>
    obtain ⟨left, cnt, hR, hA, hcv, hK, hsw⟩ := hrel
    have HA1 := Lib.hid hA
    have HR := Lib.hid hR
    have HK := Lib.hid hK
    clear hR hA hK
    go_wp2_with (first | (at_next; refine wpList_next intK rfl _ rfl rfl HR.out ?_ ?_))
    · intro hdone
      have HSE : Hid (stripL left T id = stripM T id) := stripL_end hdone
      clear hdone
      have p0 := HA1.out.cell.1
      have hpw := HA1.out.cell.2.1
      have hmw := HA1.out.cell.2.2
      have hmw0 := HH.out.cell.2.2
      have hst : ∃ w4, (∀ ty, (Builtin.delete_ #[95, 3] ty #[.map (some mb), .int .i64 id]).run Tryz.prog wr.drew = .ok (.tuple #[]) w4) ∧ MapAt intK w4 mb (adel id ((stripL left T id).map fun q => (q.1, ptr (ib q.1)))) ∧ wr.drew.mapTurned w4 mb :=
        MapAt.drop_run (F := intK) Tryz.underlying95 (HA1.out.map.kept (w' := wr.drew) rfl) id HW.out
      have HST := Lib.hid hst
      have hne1 : p ≠ mb := fun e => by have h1 := HH.out.tagp; rw [e, HH.out.tagm] at h1; cases h1
      have hne2 : w.heap.size ≠ mb := by omega
      have HKP : Hid (∀ w4, wr.drew.mapTurned w4 mb → w4.cell? ⟨p, 0, none⟩ = some (.map (some mb)) ∧ w4.cell? ⟨w.heap.size, 0, none⟩ = some (.int .i64 id)) := fun w4 hT => ⟨(World.cell?_of_block (w := wr.drew) (w' := w4) (a := ⟨p, 0, none⟩) (turned_below hT p hpw hne1)).trans p0, (World.cell?_of_block (w := wr.drew) (w' := w4) (a := ⟨w.heap.size, 0, none⟩) (turned_below hT _ hsw hne2)).trans hcv⟩
      clear hst hne1 hne2
      go_wp2
      go_region_held3 (fun w' => w'.cell? ⟨p, 0, none⟩ = some (.map (some mb)) ∧ w'.cell? ⟨w.heap.size, 0, none⟩ = some (.int .i64 id)) (first | exact ⟨p0, hcv⟩ | exact HKP.out _ hT4) ((first | (obtain ⟨w4, hrun4, hM4, hT4⟩ := HST.out; rw [hrun4]; go_simp)))
      have HM4 := Lib.hid hM4
      have HT4 := Lib.hid hT4
      clear hM4 hT4
      go_wp2
      go_ret
      rw [HM.out]
      have hK4 := turned_keeps HT4.out
      have hA4 := (HA1.out.below (Below.refl _ _).drew (Nat.le_refl _)).del HM4.out hK4.size (fun b hb hbm => hK4.block b hb hbm)
      rw [HSE.out] at hA4
      have hgm := HH.out.tagm
      exact Turn.of rfl hA4 (HK.out.trans ((below_keeps (Below.refl _ _).drew).trans (hK4.mono fun b _ hb => by rw [show b = mb from hb, hgm]; simp) (fun _ _ h => h)) (fun _ _ h => h))
    · intro k v w3 cnt1 hokk hleft hg2 hR1 hlt hK1 hs1 hen
      rw [aget_ptr] at hg2
      cases hy : aget k T with
      | none => rw [hy] at hg2; cases hg2
      | some y =>
        rw [hy] at hg2
        cases hg2
        have hyl : aget k (stripL left T id) = some y := by rw [stripL_get, hy]; simp [hleft]
        have hrl := HR.out.lt
        have hA3 : TreeAt g D w3 p mb ib nb (stripL left T id) := HA1.out.keeps hK1 fun b hb hbr => by
          rcases hb with hb | hb
          · have := HH.out.low b hb; omega
          · have := HH.out.dlow b hb; omega
        have HA3 := Lib.hid hA3
        have HY := Lib.hid hyl
        have HR1 := Lib.hid hR1
        have HLT := Lib.hid hlt
        have HK1 : Hid (Keeps (fun b => g b ≠ .none) w w3) := ⟨hK1.os.trans HK.out.os, hK1.tape.trans HK.out.tape, hK1.output.trans HK.out.output, by rw [hs1]; exact HK.out.size, fun b hb hn => (hK1.block b (by have := HK.out.size; omega) (by omega)).trans (HK.out.block b hb hn)⟩
        have hcv3 : w3.cell? ⟨w.heap.size, 0, none⟩ = some (.int .i64 id) := (World.cell?_of_block (w := wr) (w' := w3) (a := ⟨w.heap.size, 0, none⟩) (hK1.block _ hsw (by show ¬ w.heap.size = w.heap.size + 1; omega))).trans hcv
        have HSTEP : Hid (amod k (stripI id) (stripL left T id) = stripL (fun z => left z && !decide (z = k)) T id) := stripL_step hleft
        obtain ⟨_, _, _, _, _, _, d7, _⟩ := (HA3.out.item k y hyl).cell
        have hsw3 : w.heap.size < w3.heap.size := by omega
        have e3 : intK.val k = .int .i64 k := rfl
        rw [e3] at hen ⊢
        clear e3 hy hyl hA3 hR1 hlt hK1
        by_cases hk2 : y.kind = 2
        · have e2 : namesV y (nb k) = .map (some (nb k)) := if_pos hk2
          rw [e2] at d7
          have hnt := HA3.out.tagn k y HY.out hk2
          have hnw : nb k < w.heap.size := HH.out.low _ (by rw [hnt]; simp)
          have HDF := Lib.hid (delf_some id w.heap.size (nb k) y w3 ((HA3.out.item k y HY.out).names hk2) hcv3 (by omega) hsw3)
          have HK2 := Lib.hid hk2
          have HNT := Lib.hid hnt
          clear hk2 e2 hnt
          go_wp2_with fail
          (with_reducible refine HDF.out.mono ?_)
          rintro e w4 ⟨rfl, hM4, hK4⟩
          have HM4 := Lib.hid hM4
          have HK4 := Lib.hid hK4
          clear hM4 hK4
          go_wp2_with fail
          have hmn : mb ≠ nb k := fun e => by have h1 := HH.out.tagm; rw [e, HNT.out] at h1; cases h1
          have hR4 : RangeAt intK w4 mb (w.heap.size + 1) (T.map fun q => (q.1, ptr (ib q.1))) _ cnt1 := HR1.out.kept (HK4.out.block mb HR1.out.lt.1 hmn) (HK4.out.block _ HR1.out.lt.2.1 (by omega))
          go_roundw
          case rel =>
            refine ⟨_, cnt1, hR4, ?_, ?_, ?_, ?_⟩
            · rw [← HSTEP.out]
              exact strip_at HA3.out HY.out HK2.out HM4.out HK4.out
            · exact (World.cell?_of_block (w := w3) (w' := w4) (a := ⟨w.heap.size, 0, none⟩) (HK4.out.block _ hsw3 (by show w.heap.size ≠ nb k; omega))).trans hcv3
            · exact HK1.out.trans (HK4.out.mono fun b _ hb => by rw [show b = nb k from hb, HNT.out]; simp) (fun _ _ h => h)
            · have := HK4.out.size; omega
          case measure =>
            rw [hR4.measure, HR.out.measure]
            exact HLT.out
        · have e2 : namesV y (nb k) = .map none := if_neg hk2
          rw [e2] at d7
          have HK2 := Lib.hid hk2
          clear hk2 e2
          go_wp2_with fail
          (with_reducible refine (delf_nil _ _).mono ?_)
          rintro e w4 ⟨rfl, hb4⟩
          have HB4 := Lib.hid hb4
          clear hb4
          go_wp2_with fail
          have hR4 : RangeAt intK w4 mb (w.heap.size + 1) (T.map fun q => (q.1, ptr (ib q.1))) _ cnt1 := HR1.out.kept (HB4.out.block mb HR1.out.lt.1) (HB4.out.block _ HR1.out.lt.2.1)
          go_roundw
          case rel =>
            refine ⟨_, cnt1, hR4, ?_, ?_, ?_, ?_⟩
            · rw [← HSTEP.out]
              exact (strip_file HA3.out HY.out HK2.out).below HB4.out (Nat.le_refl _)
            · exact (World.cell?_of_block (w := w3) (w' := w4) (a := ⟨w.heap.size, 0, none⟩) (HB4.out.block _ hsw3)).trans hcv3
            · exact HK1.out.trans (below_keeps HB4.out) (fun _ _ h => h)
            · have := HB4.out.size; omega
          case measure =>
            rw [hR4.measure, HR.out.measure]
            exact HLT.out
theorem drop_at (id : Int) (hT : OkM T) (w : World) (h : TreeAt g D w p mb ib nb T) (hid : (Lit.int .i64 id).wf = true) :
    Calls Tryz.prog 117 #[ptr p, .int .i64 id] w (Turn g D w p mb (dropM T id).2 (.int .i64 (dropM T id).1)) := by
  by_cases hd : dropE T id = 0
  · exact drop_ok id hT hd w h hid
  · exact drop_err id hd w h hid
end
end Go.Proofs.YtmabllemjkcobaaGreatDoor
