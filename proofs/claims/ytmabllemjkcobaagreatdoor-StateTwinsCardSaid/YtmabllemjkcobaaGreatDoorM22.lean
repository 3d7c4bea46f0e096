/- tree: Copy. slices.Equal of texts; path.Within. -/
import Derived.Test.YtmabllemjkcobaaGreatDoorM15
import Derived.Test.YtmabllemjkcobaaGreatDoorM18
import Derived.Test.YtmabllemjkcobaaGreatDoorM21
import Derived.Shelf.SlMaps.Clone
import Derived.WalkLawsBesides
import Derived.Test.YtmabllemjkcobaaGreatDoorM09
namespace Go.Proofs.YtmabllemjkcobaaGreatDoor
open Go.ChangeShapes Go.WideShapes Go.ChangeAt Go.RowKit
set_option linter.unusedVariables false
set_option linter.unusedSimpArgs false

theorem mclone_some (b : Nat) (l : List (Nm × Value)) (w : World) (hM : MapAt strK w b l) : Calls Tryz.prog 126 #[.map (some b)] w fun e w' => e = .returned (.map (some w.heap.size)) ∧ MapAt strK w' w.heap.size l ∧ Below w.heap.size w w' ∧ w.heap.size < w'.heap.size :=
  (AnyW.maps_Clone_owns Tryz.cloneM 9 rawE b l.length (toD strK l) w hM).mono fun e w' h => ⟨h.1, MapAt.of_owns h.2.1, h.2.2.2, h.2.1.lt⟩
theorem mclone_nil (w : World) : Calls Tryz.prog 126 #[.map none] w fun e w' => e = .returned (.map none) ∧ w' = w := AnyW.maps_Clone_nil Tryz.cloneM w
/-- A map of names is copied. -/
def CloneAt (w : World) (x : ItM) (e : Ending) (w' : World) : Prop := ∃ n, e = .returned (namesV x n) ∧ (x.kind = 2 → MapAt strK w' n (nameL x) ∧ w.heap.size ≤ n ∧ n < w'.heap.size) ∧ Below w.heap.size w w'
theorem mclone_any {w : World} {x : ItM} {nb : Nat} (hM : x.kind = 2 → MapAt strK w nb (nameL x)) : Calls Tryz.prog 126 #[namesV x nb] w (CloneAt w x) := by
  by_cases hk : x.kind = 2
  · have e1 : namesV x nb = .map (some nb) := if_pos hk
    rw [e1]
    refine (mclone_some nb (nameL x) w (hM hk)).mono ?_
    rintro e w' ⟨rfl, h1, h2, h3⟩
    exact ⟨w.heap.size, by unfold namesV; rw [if_pos hk], fun _ => ⟨h1, Nat.le_refl _, h3⟩, h2⟩
  · have e1 : namesV x nb = .map none := if_neg hk
    rw [e1]
    refine (mclone_nil w).mono ?_
    rintro e w' ⟨rfl, rfl⟩
    exact ⟨0, by unfold namesV; rw [if_neg hk], fun h => absurd h hk, Below.refl _ _⟩
section
variable {g : Nat → Own} {D : Nat → Prop} {p mb : Nat} {ib nb : Int → Nat} {T : TrM}
/-- While Copy runs. -/
def CopyRel (g : Nat → Own) (D : Nat → Prop) (w : World) (mb : Nat) (ib : Int → Nat) (T : TrM) (q mq r : Nat) (wr : World) : Prop :=
  ∃ (left : Int → Bool) (cnt : Nat) (g' : Nat → Own) (ib' nb' : Int → Nat), RangeAt intK wr mb r (T.map fun q => (q.1, ptr (ib q.1))) left cnt ∧ TreeAt g' D wr q mq ib' nb' (doneT left T) ∧ (∀ b, g' b ≠ .none → w.heap.size ≤ b ∧ b ≠ r) ∧ Below w.heap.size w wr
/-- A copy. -/
def CopyAt (D : Nat → Prop) (w : World) (T : TrM) (e : Ending) (w' : World) : Prop :=
  ∃ q g' mq ib' nb', e = .returned (ptr q) ∧ TreeAt g' D w' q mq ib' nb' T ∧ (∀ b, g' b ≠ .none → w.heap.size ≤ b) ∧ Below w.heap.size w w'
theorem copy_start {w0 : World} {q mq : Nat} (hq : w0.heap[q]? = some (.cells #[.map (some mq)] 97 (0, 0))) (hm : MapAt intK w0 mq []) (hne : q ≠ mq) (hD : ∀ b, D b → b < w0.heap.size ∧ b ≠ q ∧ b ≠ mq) :
    TreeAt (fun b => if b = q then .head else if b = mq then .items else .none) D w0 q mq (fun _ => 0) (fun _ => 0) [] := by
  refine ⟨hq, hm, fun k x hx => (by simp [aget] at hx), if_pos rfl, by rw [if_neg (Ne.symm hne), if_pos rfl], fun k x hx => (by simp [aget] at hx), fun k x hx => (by simp [aget] at hx), fun b hb => ?_, fun b hb => ?_, fun b hb => (hD b hb).1⟩
  · rw [if_neg (hD b hb).2.1, if_neg (hD b hb).2.2]
  · by_cases h1 : b = q
    · rw [h1]; exact (Array.getElem?_eq_some_iff.1 hq).1
    · by_cases h2 : b = mq
      · rw [h2]; exact hm.lt
      · rw [if_neg h1, if_neg h2] at hb; exact absurd rfl hb
set_option maxRecDepth 100000 in
set_option maxHeartbeats 8000000 in
theorem copy_at (w : World) (h : TreeAt g D w p mb ib nb T) (hT : OkM T) : Calls Tryz.prog 58 #[ptr p] w (CopyAt D w T) := by
  have hmm := @run_makeMap Tryz.prog
  have HH := Lib.hid h
  have HT := Lib.hid hT
  obtain ⟨c0, hpw, hmw⟩ := h.cell
  have HB2 := Lib.hid ((wall w (.map #[] 0)).trans ((wall (w.alloc (.map #[] 0)) (.cells #[.map (some w.heap.size)] 97)).mono (by simp)))
  have HMAP := Lib.hid ((h.below HB2.out (Nat.le_refl _)).map)
  have c2 := (HB2.out.cell (p := ⟨p, 0, none⟩) hpw).trans c0
  clear h hT
  go_enter Tryz.func58, Tryz.ntmps58
  go_wp2_with (at_range; refine wpList_range intK rfl _ 95 88 rfl Tryz.underlying95 rfl HMAP.out ?_; intro w0 hR0 hB0 hs0)
  go_frame
  have HQ2 := Lib.hid (slice_cell (w := w.alloc (.map #[] 0)) (v := .map (some w.heap.size)) (t := 97))
  have hqb : ((w.alloc (.map #[] 0)).alloc (.cells #[.map (some w.heap.size)] 97)).heap[w.heap.size + 1]? = some (.cells #[.map (some w.heap.size)] 97 (0, 0)) := by
    have := (MapKept.heap_alloc (w.alloc (.map #[] 0)) (.cells #[.map (some w.heap.size)] 97)).1
    simpa using this
  have hmb : MapAt intK ((w.alloc (.map #[] 0)).alloc (.cells #[.map (some w.heap.size)] 97)) w.heap.size [] := (MapAt.made (F := intK) w).kept ((MapKept.heap_alloc (w.alloc (.map #[] 0)) _).2 w.heap.size (by simp))
  simp only [World.size_alloc] at hR0 hB0 hs0
  simp only [World.size_alloc]
  have hA0 : TreeAt (fun b => if b = w.heap.size + 1 then .head else if b = w.heap.size then .items else .none) D w0 (w.heap.size + 1) w.heap.size (fun _ => 0) (fun _ => 0) [] := by
    refine copy_start ((hB0.block _ (by omega)).trans hqb) (hmb.kept (hB0.block _ (by omega))) (by omega) fun b hb => ?_
    have := HH.out.dlow b hb
    omega
  go_loopw [4, 5] (fun _ _ wr => CopyRel g D w mb ib T (w.heap.size + 1) w.heap.size (w.heap.size + 2) wr) (fun _ _ wr => wr.rangeLeft mb (w.heap.size + 2))
  case atStart =>
    refine ⟨_, _, (fun b => if b = w.heap.size + 1 then .head else if b = w.heap.size then .items else .none), fun _ => 0, fun _ => 0, hR0, ?_, ?_, HB2.out.trans (hB0.mono (by omega))⟩
    · rw [doneT_start (fun q hq => by rw [aget_ptr, aget_of_mem iltLaws HT.out.sorted hq]; rfl)]
      exact hA0
    · intro b hb
      by_cases h1 : b = w.heap.size + 1
      · omega
      · by_cases h2 : b = w.heap.size
        · omega
        · simp only [if_neg h1, if_neg h2] at hb; exact absurd rfl hb
  case round =>
    obtain ⟨left, cnt, g1, ib1, nb1, hR, hA, hg1, hB⟩ := hrel
    have HA1 := Lib.hid hA
    have HR := Lib.hid hR
    have HB := Lib.hid hB
    have HG1 := Lib.hid hg1
    clear hR hA hB hg1
    go_wp2_with (first | (at_next; refine wpList_next intK rfl _ rfl rfl HR.out ?_ ?_))
    · intro hdone
      have HSE : Hid (doneT left T = T) := doneT_end hdone
      clear hdone
      go_wp2
      go_ret
      have h9 := HA1.out
      rw [HSE.out] at h9
      exact ⟨_, g1, _, ib1, nb1, rfl, h9, fun b hb => (HG1.out b hb).1, HB.out⟩
    · intro k v w3 cnt1 hokk hleft hg2 hR1 hlt hK1 hs1 hen
      rw [aget_ptr] at hg2
      cases hy : aget k T with
      | none => rw [hy] at hg2; cases hg2
      | some x =>
        rw [hy] at hg2
        cases hg2
        have hrl := HR.out.lt
        have hB3 : Below w.heap.size w w3 := HB.out.trans (hK1.to_below HB.out.size fun b hb (hbr : b = w.heap.size + 2) => by omega)
        have hAs := HH.out.below hB3 (Nat.le_refl _)
        have hA3 : TreeAt g1 D w3 (w.heap.size + 1) w.heap.size ib1 nb1 (doneT left T) := HA1.out.keeps hK1 fun b hb (hbr : b = w.heap.size + 2) => by
          rcases hb with hb | hb
          · exact (HG1.out b hb).2 hbr
          · have := HH.out.dlow b hb; omega
        obtain ⟨a, c, hcb, hcap, hrow⟩ := (hAs.item k x hy).cells
        have hnm := (hAs.item k x hy).names
        have hiw : ib k < w3.heap.size := (Array.getElem?_eq_some_iff.1 hcb).1
        have hqw := hA3.cell.2.1
        have hq0 := hA3.cell.1
        have hR1w := hR1.lt
        have HST : Hid (∀ w5 v, Below w3.heap.size w3 w5 → ∃ w6, (Instr.mapUpdate 95 (.map (some w.heap.size)) (.int .i64 k) v).run Tryz.prog w5 = .ok () w6 ∧ MapAt intK w6 w.heap.size (aput intK.lt k v ((doneT left T).map fun q => (q.1, ptr (ib1 q.1)))) ∧ w5.mapTurned w6 w.heap.size) := fun w5 v hb => by
          refine (hA3.map.kept (hb.block _ hA3.cell.2.2)).store_run intK Tryz.underlying95 ?_ k v hokk
          have h1 : (doneT left T).length ≤ T.length := List.length_filter_le _ _
          have h2 := HT.out.len
          rw [List.length_map]
          unfold maxLen
          omega
        have HKP : Hid (∀ w', Below w3.heap.size w3 w' → w'.cell? ⟨w.heap.size + 1, 0, none⟩ = some (.map (some w.heap.size)) ∧ w'.cell? ⟨ib k, 0, none⟩ = some (.int .i64 k) ∧ w'.cell? ⟨ib k, 1, none⟩ = some (.int .i64 x.kind) ∧ w'.cell? ⟨ib k, 2, none⟩ = some (.int .i64 x.links) ∧ w'.cell? ⟨ib k, 3, none⟩ = some (.int .i64 x.b.length) ∧ w'.cell? ⟨ib k, 4, none⟩ = some (.int .u64 x.til) ∧ w'.cell? ⟨ib k, 5, none⟩ = some (.bool x.closed) ∧ w'.cell? ⟨ib k, 6, none⟩ = some (.slice a x.b.length c) ∧ w'.cell? ⟨ib k, 7, none⟩ = some (namesV x (nb k))) := fun w' hb => by
          refine ⟨(hb.cell (p := ⟨w.heap.size + 1, 0, none⟩) hqw).trans hq0, ?_, ?_, ?_, ?_, ?_, ?_, ?_, ?_⟩
          · exact (hb.cell (p := ⟨ib k, 0, none⟩) hiw).trans (item_block hcb 0)
          · exact (hb.cell (p := ⟨ib k, 1, none⟩) hiw).trans (item_block hcb 1)
          · exact (hb.cell (p := ⟨ib k, 2, none⟩) hiw).trans (item_block hcb 2)
          · exact (hb.cell (p := ⟨ib k, 3, none⟩) hiw).trans (item_block hcb 3)
          · exact (hb.cell (p := ⟨ib k, 4, none⟩) hiw).trans (item_block hcb 4)
          · exact (hb.cell (p := ⟨ib k, 5, none⟩) hiw).trans (item_block hcb 5)
          · exact (hb.cell (p := ⟨ib k, 6, none⟩) hiw).trans (item_block hcb 6)
          · exact (hb.cell (p := ⟨ib k, 7, none⟩) hiw).trans (item_block hcb 7)
        have HMC := Lib.hid (mclone_any (w := w3.drew) (x := x) (nb := nb k) fun hk => (hnm hk).kept rfl)
        have HA3 := Lib.hid hA3
        have HY := Lib.hid hy
        have HR1 := Lib.hid hR1
        have HLT := Lib.hid hlt
        have HB3 := Lib.hid hB3
        have HROW := Lib.hid hrow
        have HCAP := Lib.hid hcap
        have HLF := Lib.hid hleft
        have e3 : intK.val k = .int .i64 k := rfl
        rw [e3] at hen ⊢
        obtain ⟨nl, hnl⟩ : ∃ nl, nl = x.b.length := ⟨_, rfl⟩
        obtain ⟨nv, hnv⟩ : ∃ nv, nv = namesV x (nb k) := ⟨_, rfl⟩
        rw [← hnl, ← hnv] at HKP
        rw [← hnv] at HMC
        have HNL := Lib.hid hnl
        clear hAs hA3 hcb hcap hrow hnm hy hR1 hlt hK1 hB3 hleft e3 hnl hnv
        go_wp2_with fail
        refine wp_region_noPanic ?_
        refine wp_region_L (last := 20) (S := (fun w' => w'.cell? ⟨w.heap.size + 1, 0, none⟩ = some (.map (some w.heap.size)) ∧ w'.cell? ⟨ib k, 0, none⟩ = some (.int .i64 k) ∧ w'.cell? ⟨ib k, 1, none⟩ = some (.int .i64 x.kind) ∧ w'.cell? ⟨ib k, 2, none⟩ = some (.int .i64 x.links) ∧ w'.cell? ⟨ib k, 3, none⟩ = some (.int .i64 nl) ∧ w'.cell? ⟨ib k, 4, none⟩ = some (.int .u64 x.til) ∧ w'.cell? ⟨ib k, 5, none⟩ = some (.bool x.closed) ∧ w'.cell? ⟨ib k, 6, none⟩ = some (.slice a nl c) ∧ w'.cell? ⟨ib k, 7, none⟩ = some nv)) (by kernel_rfl) ?_ (fun hS => ?_)
        · exact HKP.out _ (Below.refl _ _).drew
        refine tkL 0 (hS := hS) (h := ?_)
        refine tkL 1 (hS := hS) (h := ?_)
        refine tkL 2 (hS := hS) (h := ?_)
        refine tkL 3 (hS := hS) (h := ?_)
        refine tkL 4 (hS := hS) (h := ?_)
        refine tkL 5 (hS := hS) (h := ?_)
        refine tkL 6 (hS := hS) (h := ?_)
        refine tkL 7 (hS := hS) (h := ?_)
        refine tkL 8 (hS := hS) (h := ?_)
        refine tkL 9 (hS := hS) (h := ?_)
        refine tkL 10 (hS := hS) (h := ?_)
        refine tkL 11 (hS := hS) (h := ?_)
        refine tkL 12 (hS := hS) (h := ?_)
        refine tkL 13 (hS := hS) (h := ?_)
        refine tkL 14 (hS := hS) (h := ?_)
        refine tkL 15 (hS := hS) (h := ?_)
        refine tkL 16 (hS := hS) (h := ?_)
        refine rdL 17 (h := fun K hK => ?_)
        go_simp
        (with_reducible refine HMC.out.mono ?_)
        rintro e w4 ⟨n, rfl, hn4, hb4⟩
        have hB34 : Below w3.heap.size w3 w4 := (Below.refl _ _).drew.trans hb4
        obtain ⟨mv, hmv⟩ : ∃ mv, namesV x n = .map mv := by unfold namesV; split <;> exact ⟨_, rfl⟩
        rw [hmv]
        have HMV := Lib.hid hmv
        have HN4 := Lib.hid hn4
        clear hmv hn4 hb4
        go_wp2_with fail
        refine hK.out _ _ (fun _ => HKP.out _ hB34) (fun hS => ?_)
        replace hS := hS (by decide)
        clear hK K
        try simp only [Act.put, List.setIfInBounds_toArray, List.set_cons_zero, List.set_cons_succ]
        refine tkL 18 (hS := hS) (h := ?_)
        refine rdL 19 (h := fun K hK => ?_)
        go_simp
        have hB35 : Below w3.heap.size w3 (w4.alloc (.cells #[.int .i64 k, .int .i64 x.kind, .int .i64 x.links, .int .i64 nl, .int .u64 x.til, .bool x.closed, .slice a nl c, .map mv] 94)) := hB34.trans ((wall w4 _).mono hB34.size)
        have hci : (w4.alloc (.cells #[.int .i64 k, .int .i64 x.kind, .int .i64 x.links, .int .i64 nl, .int .u64 x.til, .bool x.closed, .slice a nl c, .map mv] 94)).heap[w4.heap.size]? = some (.cells (itemCells k x a c (if x.kind = 2 then n else w4.heap.size + 1)) 94 (0, 0)) := by
          rw [(MapKept.heap_alloc w4 _).1]
          unfold itemCells
          have e9 : namesV x (if x.kind = 2 then n else w4.heap.size + 1) = .map mv := by
            have := HMV.out
            unfold namesV at this ⊢
            by_cases hk : x.kind = 2
            · rw [if_pos hk] at this ⊢; rw [if_pos hk]; exact this
            · rw [if_neg hk] at this ⊢; exact this
          rw [e9, ← HNL.out]
        have hs5 : (w4.alloc (.cells #[.int .i64 k, .int .i64 x.kind, .int .i64 x.links, .int .i64 nl, .int .u64 x.til, .bool x.closed, .slice a nl c, .map mv] 94)).heap.size = w4.heap.size + 1 := by simp
        have hb45 := wall w4 (.cells #[.int .i64 k, .int .i64 x.kind, .int .i64 x.links, .int .i64 nl, .int .u64 x.til, .bool x.closed, .slice a nl c, .map mv] 94)
        refine hK.out _ _ (fun _ => HKP.out _ hB35) (fun hS => ?_)
        replace hS := hS (by decide)
        clear hK K
        try simp only [Act.put, List.setIfInBounds_toArray, List.set_cons_zero, List.set_cons_succ]
        generalize (w4.alloc (.cells #[.int .i64 k, .int .i64 x.kind, .int .i64 x.links, .int .i64 nl, .int .u64 x.til, .bool x.closed, .slice a nl c, .map mv] 94)) = w5 at *
        refine rdL 20 (h := fun K hK => ?_)
        go_simp
        obtain ⟨w6, hrun6, hM6, hT6⟩ := HST.out w5 (ptr w4.heap.size) hB35
        rw [hrun6]
        go_simp
        refine hK.out _ _ (fun h => absurd rfl h) (fun hS => ?_)
        clear hS hK K
        try simp only [Act.put, List.setIfInBounds_toArray, List.set_cons_zero, List.set_cons_succ]
        refine wpAnyL_done (by kernel_rfl) ?_ _
        refine NoPanic.normal ?_
        have HM6 := Lib.hid hM6
        have HT6 := Lib.hid hT6
        have HB45 := Lib.hid hb45
        have HCI := Lib.hid hci
        have hs6 := turned_size hT6
        clear hM6 hT6 hrun6 hci hb45
        go_wp2_with fail
        have hs4 := hB34.size
        have hnew : ∀ b, b < w3.heap.size → b ≠ w.heap.size → w6.heap[b]? = w3.heap[b]? := fun b hb hn => (turned_below HT6.out b (by omega) hn).trans (hB35.block b hb)
        have hR6 : RangeAt intK w6 mb (w.heap.size + 2) (T.map fun q => (q.1, ptr (ib q.1))) _ cnt1 := HR1.out.kept (hnew mb hR1w.1 (by omega)) (hnew _ hR1w.2.1 (by omega))
        go_roundw
        case rel =>
          have hi9 : ItemAt D w6 k w4.heap.size (if x.kind = 2 then n else w4.heap.size + 1) x := by
            refine ⟨⟨a, c, (turned_below HT6.out _ (by omega) (by omega)).trans HCI.out, HCAP.out, HROW.out.move (by omega) fun b hb hbw => ⟨hb, hnew b hbw (by have := HH.out.dlow b hb; omega)⟩⟩, fun hk => ?_⟩
            obtain ⟨k1, k2, k3⟩ := HN4.out hk
            rw [if_pos hk]
            have k2' : w3.heap.size ≤ n := k2
            exact (k1.kept (HB45.out.block n k3)).kept (turned_below HT6.out n (by omega) (by omega))
          have hT9 := HA3.out.addD (i := w4.heap.size) (n := if x.kind = 2 then n else w4.heap.size + 1) (k := k) (x := x) (w' := w6) hs4 (by
            by_cases hk : x.kind = 2
            · rw [if_pos hk]; exact (HN4.out hk).2.1
            · rw [if_neg hk]; omega) (by
            by_cases hk : x.kind = 2
            · rw [if_pos hk]; have := (HN4.out hk).2.2; omega
            · rw [if_neg hk]; omega) (by omega) (fun hk => by
            rw [if_pos hk]
            have := (HN4.out hk).2.2
            omega) (by rw [doneT_get, if_pos HLF.out]) HM6.out (by omega) hnew hi9
          rw [doneT_step HT.out.sorted HY.out HLF.out] at hT9
          refine ⟨_, cnt1, _, _, _, hR6, hT9, ?_, ?_⟩
          · intro b hb
            by_cases h1 : b = w4.heap.size
            · omega
            · simp only [if_neg h1] at hb
              by_cases h2 : b = (if x.kind = 2 then n else w4.heap.size + 1) ∧ x.kind = 2
              · have h3 := HN4.out h2.2
                rw [if_pos h2.2] at h2
                have h4 : w3.heap.size ≤ n := h3.2.1
                omega
              · rw [if_neg h2] at hb
                exact HG1.out b hb
          · refine HB3.out.trans ⟨?_, ?_, ?_, by omega, fun b hb => hnew b (by have := HB3.out.size; omega) (by omega)⟩
            · exact (turned_keeps HT6.out).os.trans hB35.os
            · exact (turned_keeps HT6.out).tape.trans hB35.tape
            · exact (turned_keeps HT6.out).output.trans hB35.output
        case measure =>
          rw [hR6.measure, HR.out.measure]
          exact HLT.out
end
end Go.Proofs.YtmabllemjkcobaaGreatDoor
namespace Go.Proofs.YtmabllemjkcobaaGreatDoor
open Go.ChangeShapes Go.WideShapes Go.ChangeAt Go.RowKit
set_option linter.unusedVariables false

theorem equal_any {S S' : Nat → Prop} (a a' : Option Addr) (len cap len' cap' : Nat) (ss ss' : List ByteArray) (w : World) (h : StrsAt S w a len ss) (h' : StrsAt S' w a' len' ss') :
    Calls Tryz.prog 178 #[.slice a len cap, .slice a' len' cap'] w fun e w' => e = .returned (.bool (decide (ss = ss'))) ∧ Below w.heap.size w w' := by
  have hl := h.length
  have hl' := h'.length
  have hm := h.row.small
  have hm' := h'.row.small
  unfold maxLen at hm hm'
  by_cases hne : len = len'
  · subst hne
    by_cases h0 : len = 0
    · subst h0
      refine (Tryz.slices_Equal_string_empty a a' cap 0 cap' w (by omega)).mono ?_
      rintro e w' ⟨rfl, rfl⟩
      obtain rfl : ss = [] := by simpa using hl
      obtain rfl : ss' = [] := by simpa using hl'
      exact ⟨rfl, Below.refl _ _⟩
    · obtain ⟨b, off, rfl, _, _, _⟩ := h.row.at_ (by omega)
      obtain ⟨b', off', rfl, _, _, _⟩ := h'.row.at_ (by omega)
      refine (Tryz.slices_Equal_string b off len cap b' off' len cap' ss ss' w (by omega) (by omega) (by omega) (by omega) (fun j hj => strs_getD h j hj) (fun j hj => strs_getD h' j hj)).mono ?_
      rintro e w' ⟨rfl, q, rfl⟩
      rw [List.take_of_length_le (by omega), List.take_of_length_le (by omega)]
      exact ⟨rfl, ⟨rfl, rfl, rfl, Nat.le_refl _, fun _ _ => rfl⟩⟩
  · refine (Tryz.slices_Equal_string_lens a a' len cap len' cap' w hne).mono ?_
    rintro e w' ⟨rfl, rfl⟩
    have : ss ≠ ss' := fun e => hne (by rw [← hl, ← hl', e])
    exact ⟨by simp [this], Below.refl _ _⟩

def withinB (ss ss' : List ByteArray) : Bool := decide (ss.take ss'.length = ss')

theorem pwithin_any {S S' : Nat → Prop} (a a' : Option Addr) (len cap len' cap' : Nat) (ss ss' : List ByteArray) (w : World) (h : StrsAt S w a len ss) (h' : StrsAt S' w a' len' ss') (hcap : len ≤ cap) :
    Calls Tryz.prog 108 #[.slice a len cap, .slice a' len' cap'] w fun e w' => e = .returned (.bool (withinB ss ss')) ∧ Below w.heap.size w w' := by
  have hl := h.length
  have hl' := h'.length
  have hm := h.row.small
  unfold maxLen at hm
  by_cases hle : len' ≤ len
  · have hT := h.take len' hle
    have hp : decide (ss.take len' = ss') = withinB ss ss' := by
      unfold withinB; rw [hl']
    have HP := Lib.hid hp
    clear hp hl hl'
    have e5 : len' ≤ cap := by omega
    cases a with
    | none =>
      have h0 : len' = 0 := by
        rcases Nat.eq_zero_or_pos len' with h0 | h0
        · exact h0
        · obtain ⟨b, off, e, _⟩ := h.row.at_ (by omega)
          cases e
      subst h0
      go_enter Tryz.func108, Tryz.ntmps108
      go_wp2_with fail
      refine (equal_any _ _ _ _ _ _ _ _ _ hT h').mono ?_
      rintro e w1 ⟨rfl, hb⟩
      rw [HP.out]
      go_wp2_with fail
      go_ret
      exact ⟨rfl, hb⟩
    | some ad =>
      go_enter Tryz.func108, Tryz.ntmps108
      go_wp2_with fail
      refine (equal_any _ _ _ _ _ _ _ _ _ hT h').mono ?_
      rintro e w1 ⟨rfl, hb⟩
      rw [HP.out]
      go_wp2_with fail
      go_ret
      exact ⟨rfl, hb⟩
  · have hp : withinB ss ss' = false := by
      unfold withinB
      rw [decide_eq_false_iff_not]
      intro hh
      have := congrArg List.length hh
      simp at this
      omega
    have HP := Lib.hid hp
    clear hp hl hl'
    go_enter Tryz.func108, Tryz.ntmps108
    go_wp2_with fail
    go_ret
    exact ⟨ret_bool HP.out.symm, Below.refl _ _⟩

end Go.Proofs.YtmabllemjkcobaaGreatDoor
