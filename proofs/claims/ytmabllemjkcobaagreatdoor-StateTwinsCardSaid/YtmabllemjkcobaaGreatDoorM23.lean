/- tree: Rename. -/
import Derived.Test.YtmabllemjkcobaaGreatDoorM18
import Derived.Test.YtmabllemjkcobaaGreatDoorM22
namespace Go.Proofs.YtmabllemjkcobaaGreatDoor
open Go.ChangeShapes Go.WideShapes Go.ChangeAt Go.RowKit
set_option linter.unusedVariables false
set_option linter.unusedSimpArgs false

theorem withinB_map (p q : List Nm) : withinB (p.map strOf) (q.map strOf) = withinL p q := by
  unfold withinB withinL
  rw [List.length_map, ← List.map_take]
  have : ((p.take q.length).map strOf = q.map strOf) ↔ p.take q.length = q := by
    constructor
    · intro h
      have := congrArg bls h
      rwa [bls_strOf, bls_strOf] at this
    · intro h; rw [h]
  simp only [this]
section
variable {g : Nat → Own} {D : Nat → Prop} {p mb : Nat} {ib nb : Int → Nat} {T : TrM}
/-- Two names' turns. -/
theorem move_end {w w2 w3 w4 : World} {d1 d2 id : Int} {n1 n2 : Nm} {y : ItM} (h : TreeAt g D w p mb ib nb T) (hb : Below w.heap.size w w2) (h3 : TreeAt g D w3 p mb ib nb (cutName T d1 n1) ∧ Keeps (fun b => g b ≠ .none) w2 w3)
    (hy : aget d2 (cutName T d1 n1) = some y) (hk : y.kind = 2) (hM : MapAt strK w4 (nb d2) (aput strK.lt n2 (.int .i64 id) (nameL y))) (hT : w3.mapTurned w4 (nb d2)) : Turn g D w p mb (setName (cutName T d1 n1) d2 n2 id) (.int .i64 0) (.returned (.int .i64 0)) w4 := by
  have hg := h3.1.tagn d2 y hy hk
  refine Turn.of rfl (h3.1.set hy hk hM hT) ((below_keeps hb).trans (h3.2.trans ((turned_keeps hT).mono fun b _ hb => ?_) (fun _ _ h => h)) (fun _ _ h => h))
  rw [show b = nb d2 from hb, hg]; simp
set_option maxRecDepth 100000 in
set_option maxHeartbeats 8000000 in
theorem rename_at {S S' : Nat → Prop} (a : Option Addr) (n c : Nat) (ls : List Nm) (a' : Option Addr) (n' c' : Nat) (ls' : List Nm) (w : World) (h : TreeAt g D w p mb ib nb T) (hO : Okay T) (hS : StrsAt S w a n (ls.map strOf)) (hS' : StrsAt S' w a' n' (ls'.map strOf)) (hc : n ≤ c) (hn8 : n ≤ 1000000) (hc' : n' ≤ c') (hn8' : n' ≤ 1000000) :
    Calls Tryz.prog 46 #[ptr p, .slice a n c, .slice a' n' c'] w (Turn g D w p mb (renameM T ls ls').2 (.int .i64 (renameM T ls ls').1)) := by
  have HH := Lib.hid h
  have hT := hO.1
  have HT := Lib.hid hT
  have HF := Lib.hid (fine2_at a n c ls a' n' c' ls' w hS hS')
  have HLK := Lib.hid (fun w1 (hb : Below w.heap.size w w1) => look_any a n c ls w1 (h.below hb (Nat.le_refl _)) hT (hS.below hb (Nat.le_refl _)))
  have HPL := Lib.hid (fun w1 (hb : Below w.heap.size w w1) => place_any a' n' c' ls' w1 (h.below hb (Nat.le_refl _)) hT (hS'.below hb (Nat.le_refl _)) hc' hn8')
  have HWI := Lib.hid (fun w1 (hb : Below w.heap.size w w1) => pwithin_any a' a n' c' n c (ls'.map strOf) (ls.map strOf) w1 (hS'.below hb (Nat.le_refl _)) (hS.below hb (Nat.le_refl _)) hc')
  rw [withinB_map] at HWI
  have hl' : ls'.length = n' := by have := hS'.length; simpa using this
  have HPP := Lib.hid (fun (d : Int) (nm : Nm) (hp : placeM T ls = (d, nm, 0)) w1 (hb : Below w.heap.size w w1) => place_ok a n c ls w1 (h.below hb (Nat.le_refl _)) hT (hS.below hb (Nat.le_refl _)) hc hn8 hp)
  have HDE := Lib.hid (fun id (hi : (aget id T).isSome = true) w1 (hb : Below w.heap.size w w1) => deep_any hT 8 id w1 (h.below hb (Nat.le_refl _)) hi (hO.shal id) (by omega))
  have HIT := Lib.hid (fun w1 (hb : Below w.heap.size w w1) => h.below hb (Nat.le_refl _))
  have HSH := Lib.hid (fun id => (hO.shal id).le)
  clear h hT hS hS' hO
  obtain ⟨f, hf0⟩ : ∃ f, f = fine2 ls ls' := ⟨_, rfl⟩
  rw [← hf0] at HF
  obtain ⟨⟨id, e0⟩, hq⟩ : ∃ q, q = lookM T 0 ls := ⟨_, rfl⟩
  rw [← hq] at HLK
  obtain ⟨⟨d, nm, z⟩, hq2⟩ : ∃ q, q = placeM T ls' := ⟨_, rfl⟩
  unfold RetPlace at HPL
  rw [← hq2] at HPL
  have HME : Hid (renameE T ls ls' = if f ≠ 0 then f else if e0 ≠ 0 then e0 else if id = 0 then 1 else if z ≠ 0 then z else if kindM T id = 2 ∧ withinL ls' ls = true then 1 else
      match aget nm (namesM T d) with
      | some k => if k = id then 0 else 21
      | none => if 8 < ls'.length + deepM T 8 id then 3 else 0) := by
    unfold renameE
    rw [← hf0, ← hq, ← hq2] <;> exact rfl
  have HMM : Hid (∀ k, renameE T ls ls' = k → k ≠ 0 → renameM T ls ls' = (k, T)) := fun k hk h0 => by
    unfold renameM
    rw [hk, if_neg (fun h => h0 h.1)]
  have HF0 := Lib.hid hf0
  have HQ := Lib.hid hq
  have HQ2 := Lib.hid hq2
  clear hf0 hq hq2
  go_enter Tryz.func46, Tryz.ntmps46
  go_wp2_with fail
  (with_reducible refine HF.out.mono ?_)
  rintro e w1 ⟨rfl, hb1⟩
  have HB1 := Lib.hid hb1
  clear hb1
  by_cases hf : f = 0
  · subst hf
    go_wp2_with fail
    (with_reducible refine (HLK.out w1 HB1.out).mono ?_)
    rintro e w2 ⟨rfl, rfl⟩
    by_cases he : e0 = 0
    · subst he
      by_cases hid0 : id = 0
      · have HM : Hid (renameM T ls ls' = (1, T)) := HMM.out 1 (by rw [HME.out, if_neg (by simp), if_neg (by simp), if_pos hid0]) (by decide)
        subst hid0
        go_wp2_with fail
        go_ret
        rw [HM.out]
        exact Turn.same HH.out HB1.out rfl
      · have hid1 : (id == 0) = false := by simpa using hid0
        have HID0 := Lib.hid hid0
        clear hid0
        go_wp2_with fail
        (with_reducible refine (HPL.out w1 HB1.out).mono ?_)
        rintro e w2 ⟨rfl, hb2⟩
        have HB2 := Lib.hid (HB1.out.trans (hb2.mono HB1.out.size))
        clear hb2
        by_cases hz : z = 0
        · subst hz
          (first | rw [if_pos rfl] | rw [if_pos trivial])
          have hfz := fine2_zero HF0.out.symm
          obtain ⟨x, hx, hxk, hnm⟩ := placeM_spec HT.out (p := ls') (by rw [← HQ2.out])
          rw [← HQ2.out] at hx hnm
          have hgn := fineL_good hfz.2 _ hnm
          have hokn := okNm hgn
          obtain ⟨y, hy⟩ := Option.isSome_iff_exists.1 (lookM_zero HQ.out.symm HT.out)
          have hids := HT.out.ids id y hy
          have hok : intK.ok id := okInt hids.1 (by omega)
          have HG : Hid (aget id (T.map fun q => (q.1, ptr (ib q.1))) = some (ptr (ib id))) := by rw [aget_ptr, hy]; rfl
          have HX := Lib.hid hx
          have HXK := Lib.hid hxk
          have HY := Lib.hid hy
          have HGN := Lib.hid hgn
          have HFZ := Lib.hid hfz
          have hA2 := HIT.out w2 HB2.out
          obtain ⟨d7, hnames⟩ := dirs_cell hA2 hx hxk
          have HNM := Lib.hid hnames
          have HMAP2 := Lib.hid hA2.map
          have q0 := hA2.cell.1
          obtain ⟨_, c1, _⟩ := (hA2.item id y hy).cell
          clear hx hxk hnm hgn hy hfz hA2 hnames
          have HME2 : Hid (renameE T ls ls' = if kindM T id = 2 ∧ withinL ls' ls = true then 1 else match aget nm x.names with | some k => if k = id then 0 else 21 | none => if 8 < ls'.length + deepM T 8 id then 3 else 0) := by
            rw [HME.out, if_neg (by simp), if_neg (by simp), if_neg HID0.out, if_neg (by simp), namesM_of HX.out]; exact rfl
          by_cases hwk : kindM T id = 2 ∧ withinL ls' ls = true
          · have HM : Hid (renameM T ls ls' = (1, T)) := HMM.out 1 (by rw [HME2.out, if_pos hwk]) (by decide)
            have hk2 : y.kind = 2 := by rw [← kindM_of HY.out]; exact hwk.1
            have hW := hwk.2
            rw [hW] at HWI
            rw [hk2] at c1
            clear hwk hk2 hW
            cases hj : aget nm x.names with
            | none =>
              have HGJ : Hid (aget nm (nameL x) = none) := by rw [aget_nameL, hj]; rfl
              clear hj
              go_wp2_with (first | (at_lookup; refine wpList_look_ok strK rfl _ _ 92 3 rfl Tryz.underlying92 (Tryz.zeroInt _) rfl HNM.out nm rfl hokn ?_; rw [HGJ.out]) | (at_lookup; refine wpList_look intK rfl _ _ 95 88 rfl Tryz.underlying95 (Tryz.zeroItem _) rfl HMAP2.out id rfl hok ?_; rw [HG.out]))
              (with_reducible refine (HWI.out w2 HB2.out).mono ?_)
              rintro e w3 ⟨rfl, hb3⟩
              have HB3 := Lib.hid (HB2.out.trans (hb3.mono HB2.out.size))
              clear hb3
              go_wp2_with fail
              go_ret
              rw [HM.out]
              exact Turn.same HH.out HB3.out rfl
-- MARK A
            | some j =>
              have HGJ : Hid (aget nm (nameL x) = some (.int .i64 j)) := by rw [aget_nameL, hj]; rfl
              clear hj
              go_wp2_with (first | (at_lookup; refine wpList_look_ok strK rfl _ _ 92 3 rfl Tryz.underlying92 (Tryz.zeroInt _) rfl HNM.out nm rfl hokn ?_; rw [HGJ.out]) | (at_lookup; refine wpList_look intK rfl _ _ 95 88 rfl Tryz.underlying95 (Tryz.zeroItem _) rfl HMAP2.out id rfl hok ?_; rw [HG.out]))
              (with_reducible refine (HWI.out w2 HB2.out).mono ?_)
              rintro e w3 ⟨rfl, hb3⟩
              have HB3 := Lib.hid (HB2.out.trans (hb3.mono HB2.out.size))
              clear hb3
              go_wp2_with fail
              go_ret
              rw [HM.out]
              exact Turn.same HH.out HB3.out rfl
          · have HME3 : Hid (renameE T ls ls' = match aget nm x.names with | some k => if k = id then 0 else 21 | none => if 8 < ls'.length + deepM T 8 id then 3 else 0) := by
              rw [HME2.out, if_neg hwk]; exact rfl
            by_cases hk2 : y.kind = 2
            · have hW : withinL ls' ls = false := by
                cases hw : withinL ls' ls with
                | false => rfl
                | true => exact absurd ⟨(kindM_of HY.out).trans hk2, hw⟩ hwk
              rw [hW] at HWI
              rw [hk2] at c1
              clear hwk hk2 hW
              cases hj : aget nm x.names with
              | some j =>
                have HGJ : Hid (aget nm (nameL x) = some (.int .i64 j)) := by rw [aget_nameL, hj]; rfl
                have HSM : Hid ((aget nm x.names).isSome = true) := by rw [hj]; exact rfl
                rw [hj] at HME3
                clear hj
                by_cases hji : j = id
                · rw [hji] at HGJ HME3
                  clear hji
                  have HM : Hid (renameM T ls ls' = (0, T)) := by
                    unfold renameM
                    rw [← HQ2.out, namesM_of HX.out, HSM.out, HME3.out]
                    simp only [if_pos, if_neg, and_false, Bool.true_eq_false, if_false]
                    first | exact rfl | exact trivial
                  go_wp2_with (first | (at_lookup; refine wpList_look_ok strK rfl _ _ 92 3 rfl Tryz.underlying92 (Tryz.zeroInt _) rfl HNM.out nm rfl hokn ?_; rw [HGJ.out]) | (at_lookup; refine wpList_look intK rfl _ _ 95 88 rfl Tryz.underlying95 (Tryz.zeroItem _) rfl HMAP2.out id rfl hok ?_; rw [HG.out]))
                  (with_reducible refine (HWI.out w2 HB2.out).mono ?_)
                  rintro e w3 ⟨rfl, hb3⟩
                  have HB3 := Lib.hid (HB2.out.trans (hb3.mono HB2.out.size))
                  clear hb3
                  go_wp2_with fail
                  go_ret
                  rw [HM.out]
                  exact Turn.same HH.out HB3.out rfl
                · have hne : (j == id) = false := by simpa using hji
                  have HM : Hid (renameM T ls ls' = (21, T)) := HMM.out 21 (by rw [HME3.out]; simp only [if_neg hji]) (by decide)
                  clear hji
                  go_wp2_with (first | (at_lookup; refine wpList_look_ok strK rfl _ _ 92 3 rfl Tryz.underlying92 (Tryz.zeroInt _) rfl HNM.out nm rfl hokn ?_; rw [HGJ.out]) | (at_lookup; refine wpList_look intK rfl _ _ 95 88 rfl Tryz.underlying95 (Tryz.zeroItem _) rfl HMAP2.out id rfl hok ?_; rw [HG.out]))
                  (with_reducible refine (HWI.out w2 HB2.out).mono ?_)
                  rintro e w3 ⟨rfl, hb3⟩
                  have HB3 := Lib.hid (HB2.out.trans (hb3.mono HB2.out.size))
                  clear hb3
                  go_wp2_with fail
                  go_ret
                  rw [HM.out]
                  exact Turn.same HH.out HB3.out rfl
              | none =>
                have HGJ : Hid (aget nm (nameL x) = none) := by rw [aget_nameL, hj]; rfl
                have HJ := Lib.hid hj
                rw [hj] at HME3
                clear hj
                have hlen8 := fineL_len HFZ.out.2
                have hdd := HSH.out id
                have HD8 := Lib.hid (HDE.out id (by rw [HY.out]; rfl))
                unfold DeepAt at HD8
                generalize deepM T 8 id = dd at HME3 HD8 hdd
                rw [hl'] at HME3 hlen8
                have e1 : IntKind.i64.wrap ((n' : Int) + (dd : Int)) = (n' : Int) + (dd : Int) := IntWalk.i64_in _ (by omega)
                by_cases hdp : 8 < n' + dd
                · have HM : Hid (renameM T ls ls' = (3, T)) := HMM.out 3 (by rw [HME3.out]; simp only [if_pos hdp]) (by decide)
                  have hd1 : decide ((8 : Int) < (n' : Int) + (dd : Int)) = true := by simp only [decide_eq_true_eq]; omega
                  clear hdp
                  go_wp2_with (first | (at_lookup; refine wpList_look_ok strK rfl _ _ 92 3 rfl Tryz.underlying92 (Tryz.zeroInt _) rfl HNM.out nm rfl hokn ?_; rw [HGJ.out]) | (at_lookup; refine wpList_look intK rfl _ _ 95 88 rfl Tryz.underlying95 (Tryz.zeroItem _) rfl HMAP2.out id rfl hok ?_; rw [HG.out]))
                  (with_reducible refine (HWI.out w2 HB2.out).mono ?_)
                  rintro e w3 ⟨rfl, hb3⟩
                  have HB3 := Lib.hid (HB2.out.trans (hb3.mono HB2.out.size))
                  clear hb3
                  go_wp2_with fail
                  (with_reducible refine (HD8.out w3 HB3.out).mono ?_)
                  rintro e w4 ⟨rfl, hb4⟩
                  have HB4 := Lib.hid (HB3.out.trans (hb4.mono HB3.out.size))
                  clear hb4
                  go_wp2_with fail
                  go_ret
                  rw [HM.out]
                  exact Turn.same HH.out HB4.out rfl
                · have hd1 : decide ((8 : Int) < (n' : Int) + (dd : Int)) = false := by simp only [decide_eq_false_iff_not]; omega
                  have hpn : ls ≠ [] := fun e => by
                    have h1 : id = 0 := congrArg Prod.fst (HQ.out.trans (by rw [e] <;> exact (rfl : lookM T 0 [] = (0, 0))))
                    exact HID0.out h1
                  obtain ⟨d1, x1, n1, ep, -, hx1, hxk1, hn1, hmem1, -⟩ := place_of_look HQ.out.symm hpn
                  have hokn1 := okNm (fineL_good HFZ.out.1 _ hmem1)
                  have HPO := Lib.hid (HPP.out d1 n1 ep)
                  have HX1 := Lib.hid hx1
                  have HXK1 := Lib.hid hxk1
                  have HN1 := Lib.hid hn1
                  have HM : Hid (renameM T ls ls' = (0, setName (cutName T d1 n1) d nm id)) := by
                    have h0 : renameE T ls ls' = 0 := by rw [HME3.out]; simp only [if_neg hdp]
                    have h1 : (aget nm (namesM T d)).isSome = false := by rw [namesM_of HX.out, HJ.out]; rfl
                    unfold renameM renameOk
                    rw [← HQ2.out, ← HQ.out, ep, h0]
                    simp only [h1, and_self, if_true]
                    first | exact rfl | exact trivial
                  have hc3 : ∃ x3, aget d (cutName T d1 n1) = some x3 ∧ x3.kind = 2 ∧ aget nm x3.names = none := by
                    unfold cutName
                    rw [aget_amod]
                    by_cases hd : d = d1
                    · subst hd
                      have h2 := HX1.out
                      rw [HX.out] at h2; cases h2
                      rw [if_pos rfl, HX.out]
                      refine ⟨_, rfl, HXK.out, ?_⟩
                      show aget nm (adel n1 x.names) = none
                      rw [aget_adel]
                      split
                      · rfl
                      · exact HJ.out
                    · rw [if_neg hd]; exact ⟨x, HX.out, HXK.out, HJ.out⟩
                  obtain ⟨x3, hx3, hxk3, -⟩ := hc3
                  have HX3 := Lib.hid hx3
                  have HXK3 := Lib.hid hxk3
                  have hfew : (nameL x3).length < maxLen := by
                    have h1 := (HT.out.toOkP.cut (n := n1) HX1.out HXK1.out)
                    have h2 : x3.names.length ≤ x.names.length := by
                      have h3 := HX3.out
                      unfold cutName at h3
                      rw [aget_amod, HX.out] at h3
                      split at h3
                      · simp only [Option.map_some, Option.some.injEq] at h3
                        rw [← h3]; exact List.length_filter_le _ _
                      · simp only [Option.some.injEq] at h3
                        rw [h3]; exact Nat.le_refl _
                    have h4 := HT.out.few HX.out
                    unfold nameL maxLen; rw [List.length_map]; omega
                  have HFW := Lib.hid hfew
                  clear hdp hpn ep hx1 hxk1 hn1 hmem1 hx3 hxk3 hfew
                  go_wp2_with (first | (at_lookup; refine wpList_look_ok strK rfl _ _ 92 3 rfl Tryz.underlying92 (Tryz.zeroInt _) rfl HNM.out nm rfl hokn ?_; rw [HGJ.out]) | (at_lookup; refine wpList_look intK rfl _ _ 95 88 rfl Tryz.underlying95 (Tryz.zeroItem _) rfl HMAP2.out id rfl hok ?_; rw [HG.out]))
                  (with_reducible refine (HWI.out w2 HB2.out).mono ?_)
                  rintro e w3 ⟨rfl, hb3⟩
                  have HB3 := Lib.hid (HB2.out.trans (hb3.mono HB2.out.size))
                  clear hb3
                  go_wp2_with fail
                  (with_reducible refine (HD8.out w3 HB3.out).mono ?_)
                  rintro e w4 ⟨rfl, hb4⟩
                  have HB4 := Lib.hid (HB3.out.trans (hb4.mono HB3.out.size))
                  clear hb4
                  go_wp2_with fail
                  (with_reducible refine (HPO.out w4 HB4.out).mono ?_)
                  rintro e w5 ⟨rfl, hb5⟩
                  have HB5 := Lib.hid (HB4.out.trans (hb5.mono HB4.out.size))
                  clear hb5
                  have hA5 := HIT.out w5 HB5.out
                  obtain ⟨d8, hnames5⟩ := dirs_cell hA5 HX1.out HXK1.out
                  have HA5 := Lib.hid hA5
                  have HNM5 := Lib.hid hnames5
                  clear hA5 hnames5
                  have HCUT : Hid (∀ w6, MapAt strK w6 (nb d1) (adel n1 (nameL x1)) → w5.mapTurned w6 (nb d1) → (TreeAt g D w6 p mb ib nb (cutName T d1 n1) ∧ Keeps (fun b => g b ≠ .none) w5 w6) ∧ w6.cell? ⟨ib d, 7, none⟩ = some (.map (some (nb d))) ∧ MapAt strK w6 (nb d) (nameL x3)) := fun w6 hM hTu => by
                    have h3 := cut_at HA5.out HX1.out HXK1.out hM hTu
                    exact ⟨h3, dirs_cell h3.1 HX3.out HXK3.out⟩
                  go_wp2_with (first | (at_delete; refine wpList_delete strK rfl _ _ 92 3 rfl Tryz.underlying92 rfl HNM5.out n1 rfl hokn1 ?_; intro w6 hM6 hT6; obtain ⟨hA6, d9, hnm6⟩ := HCUT.out w6 hM6 hT6; have HA6 := Lib.hid hA6; have HNM6 := Lib.hid hnm6; clear hA6 hM6 hT6 hnm6) | (at_mapUpdate; refine wpList_store strK rfl _ _ _ 92 3 rfl Tryz.underlying92 rfl HNM6.out HFW.out nm (.int .i64 id) rfl rfl hokn ?_; intro w7 hM7 hT7; have HM7 := Lib.hid hM7; have HT7 := Lib.hid hT7; clear hM7 hT7))
                  go_ret
                  rw [HM.out]
                  exact move_end HH.out HB5.out HA6.out HX3.out HXK3.out HM7.out HT7.out
            · have hkk : (y.kind == 2) = false := by simpa using hk2
              clear hwk hk2
              cases hj : aget nm x.names with
              | some j =>
                have HGJ : Hid (aget nm (nameL x) = some (.int .i64 j)) := by rw [aget_nameL, hj]; rfl
                have HSM : Hid ((aget nm x.names).isSome = true) := by rw [hj]; exact rfl
                rw [hj] at HME3
                clear hj
                by_cases hji : j = id
                · rw [hji] at HGJ HME3
                  clear hji
                  have HM : Hid (renameM T ls ls' = (0, T)) := by
                    unfold renameM
                    rw [← HQ2.out, namesM_of HX.out, HSM.out, HME3.out]
                    simp only [if_pos, if_neg, and_false, Bool.true_eq_false, if_false]
                    first | exact rfl | exact trivial
                  go_wp2_with (first | (at_lookup; refine wpList_look_ok strK rfl _ _ 92 3 rfl Tryz.underlying92 (Tryz.zeroInt _) rfl HNM.out nm rfl hokn ?_; rw [HGJ.out]) | (at_lookup; refine wpList_look intK rfl _ _ 95 88 rfl Tryz.underlying95 (Tryz.zeroItem _) rfl HMAP2.out id rfl hok ?_; rw [HG.out]))
                  go_ret
                  rw [HM.out]
                  exact Turn.same HH.out HB2.out rfl
                · have hne : (j == id) = false := by simpa using hji
                  have HM : Hid (renameM T ls ls' = (21, T)) := HMM.out 21 (by rw [HME3.out]; simp only [if_neg hji]) (by decide)
                  clear hji
                  go_wp2_with (first | (at_lookup; refine wpList_look_ok strK rfl _ _ 92 3 rfl Tryz.underlying92 (Tryz.zeroInt _) rfl HNM.out nm rfl hokn ?_; rw [HGJ.out]) | (at_lookup; refine wpList_look intK rfl _ _ 95 88 rfl Tryz.underlying95 (Tryz.zeroItem _) rfl HMAP2.out id rfl hok ?_; rw [HG.out]))
                  go_ret
                  rw [HM.out]
                  exact Turn.same HH.out HB2.out rfl
              | none =>
                have HGJ : Hid (aget nm (nameL x) = none) := by rw [aget_nameL, hj]; rfl
                have HJ := Lib.hid hj
                rw [hj] at HME3
                clear hj
                have hlen8 := fineL_len HFZ.out.2
                have hdd := HSH.out id
                have HD8 := Lib.hid (HDE.out id (by rw [HY.out]; rfl))
                unfold DeepAt at HD8
                generalize deepM T 8 id = dd at HME3 HD8 hdd
                rw [hl'] at HME3 hlen8
                have e1 : IntKind.i64.wrap ((n' : Int) + (dd : Int)) = (n' : Int) + (dd : Int) := IntWalk.i64_in _ (by omega)
                by_cases hdp : 8 < n' + dd
                · have HM : Hid (renameM T ls ls' = (3, T)) := HMM.out 3 (by rw [HME3.out]; simp only [if_pos hdp]) (by decide)
                  have hd1 : decide ((8 : Int) < (n' : Int) + (dd : Int)) = true := by simp only [decide_eq_true_eq]; omega
                  clear hdp
                  go_wp2_with (first | (at_lookup; refine wpList_look_ok strK rfl _ _ 92 3 rfl Tryz.underlying92 (Tryz.zeroInt _) rfl HNM.out nm rfl hokn ?_; rw [HGJ.out]) | (at_lookup; refine wpList_look intK rfl _ _ 95 88 rfl Tryz.underlying95 (Tryz.zeroItem _) rfl HMAP2.out id rfl hok ?_; rw [HG.out]))
                  (with_reducible refine (HD8.out w2 HB2.out).mono ?_)
                  rintro e w4 ⟨rfl, hb4⟩
                  have HB4 := Lib.hid (HB2.out.trans (hb4.mono HB2.out.size))
                  clear hb4
                  go_wp2_with fail
                  go_ret
                  rw [HM.out]
                  exact Turn.same HH.out HB4.out rfl
                · have hd1 : decide ((8 : Int) < (n' : Int) + (dd : Int)) = false := by simp only [decide_eq_false_iff_not]; omega
                  have hpn : ls ≠ [] := fun e => by
                    have h1 : id = 0 := congrArg Prod.fst (HQ.out.trans (by rw [e] <;> exact (rfl : lookM T 0 [] = (0, 0))))
                    exact HID0.out h1
                  obtain ⟨d1, x1, n1, ep, -, hx1, hxk1, hn1, hmem1, -⟩ := place_of_look HQ.out.symm hpn
                  have hokn1 := okNm (fineL_good HFZ.out.1 _ hmem1)
                  have HPO := Lib.hid (HPP.out d1 n1 ep)
                  have HX1 := Lib.hid hx1
                  have HXK1 := Lib.hid hxk1
                  have HN1 := Lib.hid hn1
                  have HM : Hid (renameM T ls ls' = (0, setName (cutName T d1 n1) d nm id)) := by
                    have h0 : renameE T ls ls' = 0 := by rw [HME3.out]; simp only [if_neg hdp]
                    have h1 : (aget nm (namesM T d)).isSome = false := by rw [namesM_of HX.out, HJ.out]; rfl
                    unfold renameM renameOk
                    rw [← HQ2.out, ← HQ.out, ep, h0]
                    simp only [h1, and_self, if_true]
                    first | exact rfl | exact trivial
                  have hc3 : ∃ x3, aget d (cutName T d1 n1) = some x3 ∧ x3.kind = 2 ∧ aget nm x3.names = none := by
                    unfold cutName
                    rw [aget_amod]
                    by_cases hd : d = d1
                    · subst hd
                      have h2 := HX1.out
                      rw [HX.out] at h2; cases h2
                      rw [if_pos rfl, HX.out]
                      refine ⟨_, rfl, HXK.out, ?_⟩
                      show aget nm (adel n1 x.names) = none
                      rw [aget_adel]
                      split
                      · rfl
                      · exact HJ.out
                    · rw [if_neg hd]; exact ⟨x, HX.out, HXK.out, HJ.out⟩
                  obtain ⟨x3, hx3, hxk3, -⟩ := hc3
                  have HX3 := Lib.hid hx3
                  have HXK3 := Lib.hid hxk3
                  have hfew : (nameL x3).length < maxLen := by
                    have h1 := (HT.out.toOkP.cut (n := n1) HX1.out HXK1.out)
                    have h2 : x3.names.length ≤ x.names.length := by
                      have h3 := HX3.out
                      unfold cutName at h3
                      rw [aget_amod, HX.out] at h3
                      split at h3
                      · simp only [Option.map_some, Option.some.injEq] at h3
                        rw [← h3]; exact List.length_filter_le _ _
                      · simp only [Option.some.injEq] at h3
                        rw [h3]; exact Nat.le_refl _
                    have h4 := HT.out.few HX.out
                    unfold nameL maxLen; rw [List.length_map]; omega
                  have HFW := Lib.hid hfew
                  clear hdp hpn ep hx1 hxk1 hn1 hmem1 hx3 hxk3 hfew
                  go_wp2_with (first | (at_lookup; refine wpList_look_ok strK rfl _ _ 92 3 rfl Tryz.underlying92 (Tryz.zeroInt _) rfl HNM.out nm rfl hokn ?_; rw [HGJ.out]) | (at_lookup; refine wpList_look intK rfl _ _ 95 88 rfl Tryz.underlying95 (Tryz.zeroItem _) rfl HMAP2.out id rfl hok ?_; rw [HG.out]))
                  (with_reducible refine (HD8.out w2 HB2.out).mono ?_)
                  rintro e w4 ⟨rfl, hb4⟩
                  have HB4 := Lib.hid (HB2.out.trans (hb4.mono HB2.out.size))
                  clear hb4
                  go_wp2_with fail
                  (with_reducible refine (HPO.out w4 HB4.out).mono ?_)
                  rintro e w5 ⟨rfl, hb5⟩
                  have HB5 := Lib.hid (HB4.out.trans (hb5.mono HB4.out.size))
                  clear hb5
                  have hA5 := HIT.out w5 HB5.out
                  obtain ⟨d8, hnames5⟩ := dirs_cell hA5 HX1.out HXK1.out
                  have HA5 := Lib.hid hA5
                  have HNM5 := Lib.hid hnames5
                  clear hA5 hnames5
                  have HCUT : Hid (∀ w6, MapAt strK w6 (nb d1) (adel n1 (nameL x1)) → w5.mapTurned w6 (nb d1) → (TreeAt g D w6 p mb ib nb (cutName T d1 n1) ∧ Keeps (fun b => g b ≠ .none) w5 w6) ∧ w6.cell? ⟨ib d, 7, none⟩ = some (.map (some (nb d))) ∧ MapAt strK w6 (nb d) (nameL x3)) := fun w6 hM hTu => by
                    have h3 := cut_at HA5.out HX1.out HXK1.out hM hTu
                    exact ⟨h3, dirs_cell h3.1 HX3.out HXK3.out⟩
                  go_wp2_with (first | (at_delete; refine wpList_delete strK rfl _ _ 92 3 rfl Tryz.underlying92 rfl HNM5.out n1 rfl hokn1 ?_; intro w6 hM6 hT6; obtain ⟨hA6, d9, hnm6⟩ := HCUT.out w6 hM6 hT6; have HA6 := Lib.hid hA6; have HNM6 := Lib.hid hnm6; clear hA6 hM6 hT6 hnm6) | (at_mapUpdate; refine wpList_store strK rfl _ _ _ 92 3 rfl Tryz.underlying92 rfl HNM6.out HFW.out nm (.int .i64 id) rfl rfl hokn ?_; intro w7 hM7 hT7; have HM7 := Lib.hid hM7; have HT7 := Lib.hid hT7; clear hM7 hT7))
                  go_ret
                  rw [HM.out]
                  exact move_end HH.out HB5.out HA6.out HX3.out HXK3.out HM7.out HT7.out
        · have HM : Hid (renameM T ls ls' = (z, T)) := HMM.out z (by rw [HME.out, if_neg (by simp), if_neg (by simp), if_neg HID0.out, if_pos hz]) hz
          have hne : (z == 0) = false := by simpa using hz
          have hne2 : (z != 0) = true := by simpa using hz
          rw [if_neg hz]
          clear hz
          go_wp2_with fail
          go_ret
          rw [HM.out]
          exact Turn.same HH.out HB2.out rfl
    · have HM : Hid (renameM T ls ls' = (e0, T)) := HMM.out e0 (by rw [HME.out, if_neg (by simp), if_pos he]) he
      have hne : (e0 == 0) = false := by simpa using he
      have hne2 : (e0 != 0) = true := by simpa using he
      clear he
      go_wp2_with fail
      go_ret
      rw [HM.out]
      exact Turn.same HH.out HB1.out rfl
  · have HM : Hid (renameM T ls ls' = (f, T)) := HMM.out f (by rw [HME.out, if_pos hf]) hf
    have hne : (f == 0) = false := by simpa using hf
    have hne2 : (f != 0) = true := by simpa using hf
    clear hf
    go_wp2_with fail
    go_ret
    rw [HM.out]
    exact Turn.same HH.out HB1.out rfl
end
end Go.Proofs.YtmabllemjkcobaaGreatDoor
