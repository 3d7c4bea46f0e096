/- The reference: Rename. -/
import Derived.Test.YtbapdoicejakhaaGreatM37
namespace Go.Proofs.YtbapdoicejakhaaGreat
open Go.ChangeShapes Go.WideShapes Go.ChangeAt Go.RowKit
set_option linter.unusedVariables false
set_option linter.unusedSimpArgs false

theorem renameM_bad {T : TrM} {p q : List Nm} {v : Int} (h : renameE T p q = v) (hv : v ≠ 0) : renameM T p q = (v, T) := by
  unfold renameM
  rw [h, if_neg (fun h => hv h.1)]
section
variable {F : Nat → Prop} {r : Nat} {T : TrM}
set_option maxRecDepth 100000 in
set_option maxHeartbeats 16000000 in
theorem rrename_any {S S' : Nat → Prop} (a : Option Addr) (n c : Nat) (ls : List Nm) (a' : Option Addr) (n' c' : Nat) (ls' : List Nm) (w : World) (h : RefAt F w r T) (hO : Okay T) (hS : StrsAt S w a n (ls.map strOf)) (hS' : StrsAt S' w a' n' (ls'.map strOf)) (hc : n ≤ c) (hn8 : n ≤ 1000000) (hc' : n' ≤ c') (hn8' : n' ≤ 1000000) :
    Calls Tryz.prog 91 #[ptr r, .slice a n c, .slice a' n' c'] w (RTurn F w r (renameM T ls ls').2 (.int .i64 (renameM T ls ls').1)) := by
  have hT := hO.1
  have hE : (entsM T).length ≤ 1000000 := by have := ents_few hT; omega
  have hln : ls.length = n := by have := hS.length; simpa using this
  have hln' : ls'.length = n' := by have := hS'.length; simpa using this
  have H1 := Lib.hid (rrights_any a n c ls a' n' c' ls' w hS hS')
  have H2 := Lib.hid (fun w1 (hb : Below w.heap.size w w1) => rlook_any a n c ls w1 (h.below hb (Nat.le_refl _)) hT hE (hS.below hb (Nat.le_refl _)))
  have H3 := Lib.hid (fun w1 (hb : Below w.heap.size w w1) => rplace_any a' n' c' ls' w1 (h.below hb (Nat.le_refl _)) hT hE (hS'.below hb (Nat.le_refl _)) hc' hn8')
  have H3p := Lib.hid (fun w1 (hb : Below w.heap.size w w1) => rplace_any a n c ls w1 (h.below hb (Nat.le_refl _)) hT hE (hS.below hb (Nat.le_refl _)) hc hn8)
  have H4 := Lib.hid (fun w1 (hb : Below w.heap.size w w1) id => rnode_any id w1 (h.below hb (Nat.le_refl _)) hT.toOkP)
  have H5 := Lib.hid (fun w1 (hb : Below w.heap.size w w1) d nm => rentry_any d nm w1 (h.below hb (Nat.le_refl _)) hE)
  have HW := Lib.hid (fun w1 (hb : Below w.heap.size w w1) => rwithin_any a' a n' c' n c (ls'.map strOf) (ls.map strOf) w1 (hS'.below hb (Nat.le_refl _)) (hS.below hb (Nat.le_refl _)))
  rw [withinB_map] at HW
  have HH := Lib.hid h
  have HT := Lib.hid hT
  have hr0 := h.low r h.own
  by_cases h0 : fine2 ls ls' = 0
  · rw [h0] at H1
    have hf8 : n' ≤ 8 := by have := fineL_len (fine2_zero h0).2; omega
    by_cases h1 : (lookM T 0 ls).2 = 0
    · have hl2 : lookM T 0 ls = ((lookM T 0 ls).1, 0) := Prod.ext rfl h1
      obtain ⟨y, hy⟩ := Option.isSome_iff_exists.1 (lookM_there hT ls 0 (root_there hT) h1)
      obtain ⟨id, hid⟩ : ∃ id, id = (lookM T 0 ls).1 := ⟨_, rfl⟩
      rw [← hid] at hl2 hy
      rw [hl2] at H2
      simp only at H2
      have hre : renameE T ls ls' = if id = 0 then 1 else if (placeM T ls').2.2 ≠ 0 then (placeM T ls').2.2 else if y.kind = 2 ∧ withinL ls' ls = true then 1 else match aget (placeM T ls').2.1 (namesM T (placeM T ls').1) with | some k => if k = id then 0 else 21 | none => if 8 < ls'.length + deepM T 8 id then 3 else 0 := by
        unfold renameE
        rw [h0, if_neg (by simp), h1, if_neg (by simp), ← hid, kindM_of hy]
        rfl
      clear h0 h1
      by_cases hp0 : ls = []
      · have hid0 : id = 0 := by rw [hid, hp0]; rfl
        rw [if_pos hid0] at hre
        have hn0 : n = 0 := by rw [← hln, hp0]; rfl
        have HQ := Lib.hid (renameM_bad hre (by omega))
        subst hn0
        clear h hO hT hS hS' hE hl2 hid hy hre hp0 hid0 hln hln' hc H3p
        go_enter Tryz.func91, Tryz.ntmps91
        go_wp2_with fail
        (with_reducible refine H1.out.mono ?_)
        rintro e w1 ⟨rfl, hb1⟩
        have HB1 := Lib.hid hb1
        clear hb1
        go_wp2_with fail
        (with_reducible refine (H2.out w1 HB1.out).mono ?_)
        rintro e w2 ⟨rfl, hb2⟩
        have HB2 := Lib.hid (HB1.out.trans (hb2.mono HB1.out.size))
        clear hb2
        go_wp2_with fail
        go_ret
        exact RTurn.no HH.out HB2.out HQ.out
      · have hid0 : id ≠ 0 := fun e => by
          obtain ⟨d, x, n1, _, _, hx, _, hxn, _, -⟩ := place_of_look hl2 hp0
          exact (hT.leads d x hx _ (aget_mem hxn)).2 e
        rw [if_neg hid0] at hre
        have hn0 : ((n : Int) == 0) = false := by
          have : ls.length ≠ 0 := fun e => hp0 (List.eq_nil_of_length_eq_zero e)
          simp; omega
        clear hid hid0
        by_cases h3 : (placeM T ls').2.2 = 0
        · have hpl : placeM T ls' = ((placeM T ls').1, (placeM T ls').2.1, 0) := Prod.ext rfl (Prod.ext rfl h3)
          obtain ⟨x2, hx2, hxk2, -⟩ := placeM_spec hT h3
          rw [if_neg (by rw [h3]; simp)] at hre
          obtain ⟨d2, hd2⟩ : ∃ d2, d2 = (placeM T ls').1 := ⟨_, rfl⟩
          obtain ⟨n2, hn2⟩ : ∃ n2, n2 = (placeM T ls').2.1 := ⟨_, rfl⟩
          rw [← hd2, ← hn2] at hpl hre
          rw [← hd2] at hx2
          rw [hpl] at H3
          simp only at H3
          rw [namesM_of hx2] at hre
          have H4y := Lib.hid (fun w1 hb => H4.out w1 hb id)
          have hnd : nodeM T id = nodeV id y := by unfold nodeM; rw [hy]
          rw [hnd] at H4y
          unfold nodeV at H4y
          have H5e := Lib.hid (fun w1 hb => H5.out w1 hb d2 n2)
          have HDP : Hid (∀ w1, Below w.heap.size w w1 → RDeep r w1 id (deepM T 8 id)) := fun w1 hb => rdeep_any hT 8 id w1 (h.below hb (Nat.le_refl _)) (by rw [hy]; rfl) (hO.shal id) (by omega)
          have hdm : deepM T 8 id ≤ 8 := (hO.shal id).le
          clear h3 hd2 hn2 hnd
          by_cases hk : y.kind = 2
          · rw [hk] at H4y
            cases hw : withinL ls' ls with
            | true =>
              rw [hw] at HW
              rw [if_pos ⟨hk, hw⟩] at hre
              have HQ := Lib.hid (renameM_bad hre (by omega))
              clear hk hw hp0 H3p
              clear h hO hT hS hS' hE H4 H5 hl2 hy hre hln hln' hpl hx2 hxk2
              go_enter Tryz.func91, Tryz.ntmps91
              go_wp2_with fail
              (with_reducible refine H1.out.mono ?_)
              rintro e w1 ⟨rfl, hb1⟩
              have HB1 := Lib.hid hb1
              clear hb1
              go_wp2_with fail
              (with_reducible refine (H2.out w1 HB1.out).mono ?_)
              rintro e w2 ⟨rfl, hb2⟩
              have HB2 := Lib.hid (HB1.out.trans (hb2.mono HB1.out.size))
              clear hb2
              go_wp2_with fail
              (with_reducible refine (H3.out w2 HB2.out).mono ?_)
              rintro e w3 ⟨rfl, hb3⟩
              have HB3 := Lib.hid (HB2.out.trans (hb3.mono HB2.out.size))
              clear hb3
              go_wp2_with fail
              (with_reducible refine (H4y.out w3 HB3.out).mono ?_)
              rintro e w4 ⟨rfl, hb4⟩
              have HB4 := Lib.hid (HB3.out.trans (hb4.mono HB3.out.size))
              have hz4 := HB4.out.size
              clear hb4
              go_wp2_with fail
              (with_reducible refine (HW.out _ (HB4.out.trans ((wall w4 _).mono HB4.out.size))).mono ?_)
              rintro e w5 ⟨rfl, hb5⟩
              have HB5 := Lib.hid ((HB4.out.trans ((wall w4 _).mono HB4.out.size)).trans (hb5.mono (by simp; omega)))
              have q1 : w5.cell? ⟨w4.heap.size, 1, none⟩ = some (.int .i64 2) := by rw [hb5.cell (p := ⟨w4.heap.size, 1, none⟩) (by simp)]; exact cell_new w4 _ _ 1
              have hz5 : w4.heap.size < w5.heap.size := by have := hb5.size; simp at this; omega
              clear hb5
              go_wp2_with fail
              go_ret
              exact RTurn.no HH.out HB5.out HQ.out
            | false =>
              rw [hw] at HW
              rw [if_neg (by rw [hw]; simp)] at hre
              clear hw
              cases hn : aget n2 x2.names with
              | some j =>
                obtain ⟨m, hm1, hm2⟩ := ent_some HT.out.toOkP hx2 hn
                rw [hm1] at H5e
                rw [hn] at hre
                simp only at hre
                have m0 : ¬ (m : Int) < 0 := by omega
                have m1 : (0 : Int) ≤ m := by omega
                have HON := Lib.hid (fun w1 (hb : Below w.heap.size w w1) => ronto_any d2 n2 id j x2 w1 (h.below hb (Nat.le_refl _)) hT hx2 hn)
                by_cases hj : j = id
                · rw [if_pos hj] at hre
                  rw [if_pos hj] at HON
                  have HQ : Hid (renameM T ls ls' = (0, T)) := by
                    show renameM T ls ls' = _
                    unfold renameM
                    rw [hre, hpl]
                    simp only
                    rw [if_neg (fun hh => by have h2 := hh.2; rw [namesM_of hx2, hn] at h2; cases h2)]
                  clear hn hm1 hm2 hk hp0 H3p hj
                  clear h hO hT hS hS' hE H4 H5 hl2 hy hre hln hln' hpl hx2 hxk2
                  go_enter Tryz.func91, Tryz.ntmps91
                  go_wp2_with fail
                  (with_reducible refine H1.out.mono ?_)
                  rintro e w1 ⟨rfl, hb1⟩
                  have HB1 := Lib.hid hb1
                  clear hb1
                  go_wp2_with fail
                  (with_reducible refine (H2.out w1 HB1.out).mono ?_)
                  rintro e w2 ⟨rfl, hb2⟩
                  have HB2 := Lib.hid (HB1.out.trans (hb2.mono HB1.out.size))
                  clear hb2
                  go_wp2_with fail
                  (with_reducible refine (H3.out w2 HB2.out).mono ?_)
                  rintro e w3 ⟨rfl, hb3⟩
                  have HB3 := Lib.hid (HB2.out.trans (hb3.mono HB2.out.size))
                  clear hb3
                  go_wp2_with fail
                  (with_reducible refine (H4y.out w3 HB3.out).mono ?_)
                  rintro e w4 ⟨rfl, hb4⟩
                  have HB4 := Lib.hid (HB3.out.trans (hb4.mono HB3.out.size))
                  have hz4 := HB4.out.size
                  clear hb4
                  go_wp2_with fail
                  (with_reducible refine (HW.out _ (HB4.out.trans ((wall w4 _).mono HB4.out.size))).mono ?_)
                  rintro e w5 ⟨rfl, hb5⟩
                  have HB5 := Lib.hid ((HB4.out.trans ((wall w4 _).mono HB4.out.size)).trans (hb5.mono (by simp; omega)))
                  have q1 : w5.cell? ⟨w4.heap.size, 1, none⟩ = some (.int .i64 2) := by rw [hb5.cell (p := ⟨w4.heap.size, 1, none⟩) (by simp)]; exact cell_new w4 _ _ 1
                  have hz5 : w4.heap.size < w5.heap.size := by have := hb5.size; simp at this; omega
                  clear hb5
                  go_wp2_with fail
                  (with_reducible refine (H5e.out w5 HB5.out).mono ?_)
                  rintro e w6 ⟨rfl, rfl⟩
                  go_wp2_with fail
                  (with_reducible refine (HON.out w5 HB5.out).mono ?_)
                  rintro e w6 ⟨rfl, hb6⟩
                  have HB6 := Lib.hid (HB5.out.trans (hb6.mono HB5.out.size))
                  clear hb6
                  go_wp2_with fail
                  go_ret
                  exact RTurn.no HH.out HB6.out HQ.out
                · rw [if_neg hj] at hre
                  rw [if_neg hj] at HON
                  have HQ := Lib.hid (renameM_bad hre (by omega))
                  clear hn hm1 hm2 hk hp0 H3p hj
                  clear h hO hT hS hS' hE H4 H5 hl2 hy hre hln hln' hpl hx2 hxk2
                  go_enter Tryz.func91, Tryz.ntmps91
                  go_wp2_with fail
                  (with_reducible refine H1.out.mono ?_)
                  rintro e w1 ⟨rfl, hb1⟩
                  have HB1 := Lib.hid hb1
                  clear hb1
                  go_wp2_with fail
                  (with_reducible refine (H2.out w1 HB1.out).mono ?_)
                  rintro e w2 ⟨rfl, hb2⟩
                  have HB2 := Lib.hid (HB1.out.trans (hb2.mono HB1.out.size))
                  clear hb2
                  go_wp2_with fail
                  (with_reducible refine (H3.out w2 HB2.out).mono ?_)
                  rintro e w3 ⟨rfl, hb3⟩
                  have HB3 := Lib.hid (HB2.out.trans (hb3.mono HB2.out.size))
                  clear hb3
                  go_wp2_with fail
                  (with_reducible refine (H4y.out w3 HB3.out).mono ?_)
                  rintro e w4 ⟨rfl, hb4⟩
                  have HB4 := Lib.hid (HB3.out.trans (hb4.mono HB3.out.size))
                  have hz4 := HB4.out.size
                  clear hb4
                  go_wp2_with fail
                  (with_reducible refine (HW.out _ (HB4.out.trans ((wall w4 _).mono HB4.out.size))).mono ?_)
                  rintro e w5 ⟨rfl, hb5⟩
                  have HB5 := Lib.hid ((HB4.out.trans ((wall w4 _).mono HB4.out.size)).trans (hb5.mono (by simp; omega)))
                  have q1 : w5.cell? ⟨w4.heap.size, 1, none⟩ = some (.int .i64 2) := by rw [hb5.cell (p := ⟨w4.heap.size, 1, none⟩) (by simp)]; exact cell_new w4 _ _ 1
                  have hz5 : w4.heap.size < w5.heap.size := by have := hb5.size; simp at this; omega
                  clear hb5
                  go_wp2_with fail
                  (with_reducible refine (H5e.out w5 HB5.out).mono ?_)
                  rintro e w6 ⟨rfl, rfl⟩
                  go_wp2_with fail
                  (with_reducible refine (HON.out w5 HB5.out).mono ?_)
                  rintro e w6 ⟨rfl, hb6⟩
                  have HB6 := Lib.hid (HB5.out.trans (hb6.mono HB5.out.size))
                  clear hb6
                  go_wp2_with fail
                  go_ret
                  exact RTurn.no HH.out HB6.out HQ.out
              | none =>
                rw [ent_none HT.out.sorted hx2 hn] at H5e
                rw [hn] at hre
                simp only at hre
                by_cases h8 : 8 < ls'.length + deepM T 8 id
                · rw [if_pos h8] at hre
                  have HQ := Lib.hid (renameM_bad hre (by omega))
                  rw [hln'] at h8
                  generalize deepM T 8 id = dm at *
                  have e1 : IntKind.i64.wrap ((dm : Int) + (n' : Int)) = (dm : Int) + (n' : Int) := IntWalk.i64_in _ (by omega)
                  have e2 : decide ((8 : Int) < (dm : Int) + (n' : Int)) = true := by simp; omega
                  clear hn h8 hk hp0 H3p
                  clear h hO hT hS hS' hE H4 H5 hl2 hy hre hln hln' hpl hx2 hxk2
                  go_enter Tryz.func91, Tryz.ntmps91
                  go_wp2_with fail
                  (with_reducible refine H1.out.mono ?_)
                  rintro e w1 ⟨rfl, hb1⟩
                  have HB1 := Lib.hid hb1
                  clear hb1
                  go_wp2_with fail
                  (with_reducible refine (H2.out w1 HB1.out).mono ?_)
                  rintro e w2 ⟨rfl, hb2⟩
                  have HB2 := Lib.hid (HB1.out.trans (hb2.mono HB1.out.size))
                  clear hb2
                  go_wp2_with fail
                  (with_reducible refine (H3.out w2 HB2.out).mono ?_)
                  rintro e w3 ⟨rfl, hb3⟩
                  have HB3 := Lib.hid (HB2.out.trans (hb3.mono HB2.out.size))
                  clear hb3
                  go_wp2_with fail
                  (with_reducible refine (H4y.out w3 HB3.out).mono ?_)
                  rintro e w4 ⟨rfl, hb4⟩
                  have HB4 := Lib.hid (HB3.out.trans (hb4.mono HB3.out.size))
                  have hz4 := HB4.out.size
                  clear hb4
                  go_wp2_with fail
                  (with_reducible refine (HW.out _ (HB4.out.trans ((wall w4 _).mono HB4.out.size))).mono ?_)
                  rintro e w5 ⟨rfl, hb5⟩
                  have HB5 := Lib.hid ((HB4.out.trans ((wall w4 _).mono HB4.out.size)).trans (hb5.mono (by simp; omega)))
                  have q1 : w5.cell? ⟨w4.heap.size, 1, none⟩ = some (.int .i64 2) := by rw [hb5.cell (p := ⟨w4.heap.size, 1, none⟩) (by simp)]; exact cell_new w4 _ _ 1
                  have hz5 : w4.heap.size < w5.heap.size := by have := hb5.size; simp at this; omega
                  clear hb5
                  go_wp2_with fail
                  (with_reducible refine (H5e.out w5 HB5.out).mono ?_)
                  rintro e w6 ⟨rfl, rfl⟩
                  go_wp2_with fail
                  (with_reducible refine Calls.mono (HDP.out w5 HB5.out) ?_)
                  rintro e w6 ⟨rfl, hb6⟩
                  have HB6 := Lib.hid (HB5.out.trans (hb6.mono HB5.out.size))
                  clear hb6
                  go_wp2_with fail
                  go_ret
                  exact RTurn.no HH.out HB6.out HQ.out
                · rw [if_neg h8] at hre
                  have hls : ls ≠ [] := hp0
                  obtain ⟨d1, x1, n1, hp1, hp2, hx1, hxk1, hxn1, hm1, -⟩ := place_of_look hl2 hls
                  rw [hp1] at H3p
                  simp only at H3p
                  have HL1 := Lib.hid ((Lax.of hT).cut d1 n1)
                  obtain ⟨k1, hk1i, -⟩ := lax_ent (Lax.of hT) hx1 hxn1
                  have H5p := Lib.hid (fun w1 hb => H5.out w1 hb d1 n1)
                  rw [hk1i] at H5p
                  have HCT : Hid (∀ w4, Below w.heap.size w w4 → Calls Tryz.prog 68 #[ptr r, .int .i64 k1] w4 (RTurn F w4 r (cutName T d1 n1) (.tuple #[]))) := fun w4 hb => by
                    obtain ⟨k', hk', hc'⟩ := rcut_tr d1 n1 id x1 w4 (h.below hb (Nat.le_refl _)) (Lax.of hT) hx1 hxn1
                    rw [hk1i] at hk'
                    have : k1 = k' := by omega
                    rw [this]
                    exact hc'
                  have HX2 : Hid (aget d2 (cutName T d1 n1) = some (if d2 = d1 then { x2 with names := adel n1 x2.names } else x2) ∧ aget n2 (if d2 = d1 then { x2 with names := adel n1 x2.names } else x2 : ItM).names = none) := by
                    refine ⟨?_, ?_⟩
                    · unfold cutName
                      rw [aget_amod, hx2]
                      split <;> rfl
                    · split
                      · show aget n2 (adel n1 x2.names) = none
                        rw [aget_adel, hn]
                        split <;> rfl
                      · exact hn
                  have HQ : Hid (renameM T ls ls' = (0, setName (cutName T d1 n1) d2 n2 id)) := by
                    show renameM T ls ls' = _
                    unfold renameM renameOk
                    rw [hre, hpl, hp1, hl2]
                    simp only
                    rw [if_pos (by rw [namesM_of hx2, hn]; simp)]
                  rw [hln'] at h8
                  generalize deepM T 8 id = dm at *
                  have e1 : IntKind.i64.wrap ((dm : Int) + (n' : Int)) = (dm : Int) + (n' : Int) := IntWalk.i64_in _ (by omega)
                  have e2 : decide ((8 : Int) < (dm : Int) + (n' : Int)) = false := by simp; omega
                  clear hn h8 hls hp1 hp2 hx1 hxk1 hxn1 hm1 hk1i hk hp0
                  clear h hO hT hS hS' hE H4 H5 hl2 hy hre hln hln' hpl hx2 hxk2
                  go_enter Tryz.func91, Tryz.ntmps91
                  go_wp2_with fail
                  (with_reducible refine H1.out.mono ?_)
                  rintro e w1 ⟨rfl, hb1⟩
                  have HB1 := Lib.hid hb1
                  clear hb1
                  go_wp2_with fail
                  (with_reducible refine (H2.out w1 HB1.out).mono ?_)
                  rintro e w2 ⟨rfl, hb2⟩
                  have HB2 := Lib.hid (HB1.out.trans (hb2.mono HB1.out.size))
                  clear hb2
                  go_wp2_with fail
                  (with_reducible refine (H3.out w2 HB2.out).mono ?_)
                  rintro e w3 ⟨rfl, hb3⟩
                  have HB3 := Lib.hid (HB2.out.trans (hb3.mono HB2.out.size))
                  clear hb3
                  go_wp2_with fail
                  (with_reducible refine (H4y.out w3 HB3.out).mono ?_)
                  rintro e w4 ⟨rfl, hb4⟩
                  have HB4 := Lib.hid (HB3.out.trans (hb4.mono HB3.out.size))
                  have hz4 := HB4.out.size
                  clear hb4
                  go_wp2_with fail
                  (with_reducible refine (HW.out _ (HB4.out.trans ((wall w4 _).mono HB4.out.size))).mono ?_)
                  rintro e w5 ⟨rfl, hb5⟩
                  have HB5 := Lib.hid ((HB4.out.trans ((wall w4 _).mono HB4.out.size)).trans (hb5.mono (by simp; omega)))
                  have q1 : w5.cell? ⟨w4.heap.size, 1, none⟩ = some (.int .i64 2) := by rw [hb5.cell (p := ⟨w4.heap.size, 1, none⟩) (by simp)]; exact cell_new w4 _ _ 1
                  have hz5 : w4.heap.size < w5.heap.size := by have := hb5.size; simp at this; omega
                  clear hb5
                  go_wp2_with fail
                  (with_reducible refine (H5e.out w5 HB5.out).mono ?_)
                  rintro e w6 ⟨rfl, rfl⟩
                  go_wp2_with fail
                  (with_reducible refine Calls.mono (HDP.out w5 HB5.out) ?_)
                  rintro e w6 ⟨rfl, hb6⟩
                  have HB6 := Lib.hid (HB5.out.trans (hb6.mono HB5.out.size))
                  clear hb6
                  go_wp2_with fail
                  (with_reducible refine (H3p.out w6 HB6.out).mono ?_)
                  rintro e w8 ⟨rfl, hb8⟩
                  have HB8 := Lib.hid (HB6.out.trans (hb8.mono HB6.out.size))
                  clear hb8
                  go_wp2_with fail
                  (with_reducible refine (H5p.out w8 HB8.out).mono ?_)
                  rintro e w9 ⟨rfl, rfl⟩
                  go_wp2_with fail
                  (with_reducible refine (HCT.out w8 HB8.out).mono ?_)
                  rintro e w9 ht9
                  obtain ⟨rfl, hK9, hR9⟩ := ht9
                  have HAD := Lib.hid (radd_tr d2 n2 id _ w9 hR9 HL1.out HX2.out.1 HX2.out.2)
                  have HT9 : Hid (RTurn F w8 r (cutName T d1 n1) (.tuple #[]) (.returned (.tuple #[])) w9) := ⟨rfl, hK9, hR9⟩
                  clear hK9 hR9
                  go_wp2_with fail
                  (with_reducible refine HAD.out.mono ?_)
                  rintro e w10 ht10
                  have HT10 := Lib.hid ht10
                  obtain rfl := ht10.1
                  clear ht10
                  go_wp2_with fail
                  go_ret
                  rw [HQ.out]
                  exact (RTurnP.behind HH.out.low HB8.out (HT9.out.trans (HH.out.below HB8.out (Nat.le_refl _)).low HT10.out)).val _
          · have hkb : (y.kind == 2) = false := by simpa using hk
            rw [if_neg (fun h => hk h.1)] at hre
            cases hn : aget n2 x2.names with
            | some j =>
              obtain ⟨m, hm1, hm2⟩ := ent_some HT.out.toOkP hx2 hn
              rw [hm1] at H5e
              rw [hn] at hre
              simp only at hre
              have m0 : ¬ (m : Int) < 0 := by omega
              have m1 : (0 : Int) ≤ m := by omega
              have HON := Lib.hid (fun w1 (hb : Below w.heap.size w w1) => ronto_any d2 n2 id j x2 w1 (h.below hb (Nat.le_refl _)) hT hx2 hn)
              by_cases hj : j = id
              · rw [if_pos hj] at hre
                rw [if_pos hj] at HON
                have HQ : Hid (renameM T ls ls' = (0, T)) := by
                  show renameM T ls ls' = _
                  unfold renameM
                  rw [hre, hpl]
                  simp only
                  rw [if_neg (fun hh => by have h2 := hh.2; rw [namesM_of hx2, hn] at h2; cases h2)]
                clear hn hm1 hm2 hk hp0 H3p hj
                clear h hO hT hS hS' hE H4 H5 hl2 hy hre hln hln' hpl hx2 hxk2
                go_enter Tryz.func91, Tryz.ntmps91
                go_wp2_with fail
                (with_reducible refine H1.out.mono ?_)
                rintro e w1 ⟨rfl, hb1⟩
                have HB1 := Lib.hid hb1
                clear hb1
                go_wp2_with fail
                (with_reducible refine (H2.out w1 HB1.out).mono ?_)
                rintro e w2 ⟨rfl, hb2⟩
                have HB2 := Lib.hid (HB1.out.trans (hb2.mono HB1.out.size))
                clear hb2
                go_wp2_with fail
                (with_reducible refine (H3.out w2 HB2.out).mono ?_)
                rintro e w3 ⟨rfl, hb3⟩
                have HB3 := Lib.hid (HB2.out.trans (hb3.mono HB2.out.size))
                clear hb3
                go_wp2_with fail
                (with_reducible refine (H4y.out w3 HB3.out).mono ?_)
                rintro e w4 ⟨rfl, hb4⟩
                have HB4 := Lib.hid (HB3.out.trans (hb4.mono HB3.out.size))
                have hz4 := HB4.out.size
                clear hb4
                go_wp2_with fail
                have HB5 := Lib.hid (HB4.out.trans ((wall w4 (.cells #[.int .i64 id, .int .i64 y.kind, .int .i64 y.links, .int .i64 y.b.length, .int .u64 y.til, .bool y.closed] 29)).mono HB4.out.size))
                have q1 : (w4.alloc (.cells #[.int .i64 id, .int .i64 y.kind, .int .i64 y.links, .int .i64 y.b.length, .int .u64 y.til, .bool y.closed] 29)).cell? ⟨w4.heap.size, 1, none⟩ = some (.int .i64 y.kind) := cell_new w4 _ _ 1
                have hz5 : w4.heap.size < (w4.alloc (.cells #[.int .i64 id, .int .i64 y.kind, .int .i64 y.links, .int .i64 y.b.length, .int .u64 y.til, .bool y.closed] 29)).heap.size := by simp
                generalize (w4.alloc (.cells #[.int .i64 id, .int .i64 y.kind, .int .i64 y.links, .int .i64 y.b.length, .int .u64 y.til, .bool y.closed] 29)) = w5 at *
                (with_reducible refine (H5e.out w5 HB5.out).mono ?_)
                rintro e w6 ⟨rfl, rfl⟩
                go_wp2_with fail
                (with_reducible refine (HON.out w5 HB5.out).mono ?_)
                rintro e w6 ⟨rfl, hb6⟩
                have HB6 := Lib.hid (HB5.out.trans (hb6.mono HB5.out.size))
                clear hb6
                go_wp2_with fail
                go_ret
                exact RTurn.no HH.out HB6.out HQ.out
              · rw [if_neg hj] at hre
                rw [if_neg hj] at HON
                have HQ := Lib.hid (renameM_bad hre (by omega))
                clear hn hm1 hm2 hk hp0 H3p hj
                clear h hO hT hS hS' hE H4 H5 hl2 hy hre hln hln' hpl hx2 hxk2
                go_enter Tryz.func91, Tryz.ntmps91
                go_wp2_with fail
                (with_reducible refine H1.out.mono ?_)
                rintro e w1 ⟨rfl, hb1⟩
                have HB1 := Lib.hid hb1
                clear hb1
                go_wp2_with fail
                (with_reducible refine (H2.out w1 HB1.out).mono ?_)
                rintro e w2 ⟨rfl, hb2⟩
                have HB2 := Lib.hid (HB1.out.trans (hb2.mono HB1.out.size))
                clear hb2
                go_wp2_with fail
                (with_reducible refine (H3.out w2 HB2.out).mono ?_)
                rintro e w3 ⟨rfl, hb3⟩
                have HB3 := Lib.hid (HB2.out.trans (hb3.mono HB2.out.size))
                clear hb3
                go_wp2_with fail
                (with_reducible refine (H4y.out w3 HB3.out).mono ?_)
                rintro e w4 ⟨rfl, hb4⟩
                have HB4 := Lib.hid (HB3.out.trans (hb4.mono HB3.out.size))
                have hz4 := HB4.out.size
                clear hb4
                go_wp2_with fail
                have HB5 := Lib.hid (HB4.out.trans ((wall w4 (.cells #[.int .i64 id, .int .i64 y.kind, .int .i64 y.links, .int .i64 y.b.length, .int .u64 y.til, .bool y.closed] 29)).mono HB4.out.size))
                have q1 : (w4.alloc (.cells #[.int .i64 id, .int .i64 y.kind, .int .i64 y.links, .int .i64 y.b.length, .int .u64 y.til, .bool y.closed] 29)).cell? ⟨w4.heap.size, 1, none⟩ = some (.int .i64 y.kind) := cell_new w4 _ _ 1
                have hz5 : w4.heap.size < (w4.alloc (.cells #[.int .i64 id, .int .i64 y.kind, .int .i64 y.links, .int .i64 y.b.length, .int .u64 y.til, .bool y.closed] 29)).heap.size := by simp
                generalize (w4.alloc (.cells #[.int .i64 id, .int .i64 y.kind, .int .i64 y.links, .int .i64 y.b.length, .int .u64 y.til, .bool y.closed] 29)) = w5 at *
                (with_reducible refine (H5e.out w5 HB5.out).mono ?_)
                rintro e w6 ⟨rfl, rfl⟩
                go_wp2_with fail
                (with_reducible refine (HON.out w5 HB5.out).mono ?_)
                rintro e w6 ⟨rfl, hb6⟩
                have HB6 := Lib.hid (HB5.out.trans (hb6.mono HB5.out.size))
                clear hb6
                go_wp2_with fail
                go_ret
                exact RTurn.no HH.out HB6.out HQ.out
            | none =>
              rw [ent_none HT.out.sorted hx2 hn] at H5e
              rw [hn] at hre
              simp only at hre
              have hdz : deepM T 8 id = 0 := deepM_file hT (by rw [kindM_of hy]; exact hk) 8
              rw [if_neg (by rw [hdz, hln']; omega)] at hre
              have hls : ls ≠ [] := hp0
              obtain ⟨d1, x1, n1, hp1, hp2, hx1, hxk1, hxn1, hm1, -⟩ := place_of_look hl2 hls
              rw [hp1] at H3p
              simp only at H3p
              have HL1 := Lib.hid ((Lax.of hT).cut d1 n1)
              obtain ⟨k1, hk1i, -⟩ := lax_ent (Lax.of hT) hx1 hxn1
              have H5p := Lib.hid (fun w1 hb => H5.out w1 hb d1 n1)
              rw [hk1i] at H5p
              have HCT : Hid (∀ w4, Below w.heap.size w w4 → Calls Tryz.prog 68 #[ptr r, .int .i64 k1] w4 (RTurn F w4 r (cutName T d1 n1) (.tuple #[]))) := fun w4 hb => by
                obtain ⟨k', hk', hc'⟩ := rcut_tr d1 n1 id x1 w4 (h.below hb (Nat.le_refl _)) (Lax.of hT) hx1 hxn1
                rw [hk1i] at hk'
                have : k1 = k' := by omega
                rw [this]
                exact hc'
              have HX2 : Hid (aget d2 (cutName T d1 n1) = some (if d2 = d1 then { x2 with names := adel n1 x2.names } else x2) ∧ aget n2 (if d2 = d1 then { x2 with names := adel n1 x2.names } else x2 : ItM).names = none) := by
                refine ⟨?_, ?_⟩
                · unfold cutName
                  rw [aget_amod, hx2]
                  split <;> rfl
                · split
                  · show aget n2 (adel n1 x2.names) = none
                    rw [aget_adel, hn]
                    split <;> rfl
                  · exact hn
              have HQ : Hid (renameM T ls ls' = (0, setName (cutName T d1 n1) d2 n2 id)) := by
                show renameM T ls ls' = _
                unfold renameM renameOk
                rw [hre, hpl, hp1, hl2]
                simp only
                rw [if_pos (by rw [namesM_of hx2, hn]; simp)]
              clear hn hls hp1 hp2 hx1 hxk1 hxn1 hm1 hk1i hk hp0 hdz HDP hdm
              clear h hO hT hS hS' hE H4 H5 hl2 hy hre hln hln' hpl hx2 hxk2
              go_enter Tryz.func91, Tryz.ntmps91
              go_wp2_with fail
              (with_reducible refine H1.out.mono ?_)
              rintro e w1 ⟨rfl, hb1⟩
              have HB1 := Lib.hid hb1
              clear hb1
              go_wp2_with fail
              (with_reducible refine (H2.out w1 HB1.out).mono ?_)
              rintro e w2 ⟨rfl, hb2⟩
              have HB2 := Lib.hid (HB1.out.trans (hb2.mono HB1.out.size))
              clear hb2
              go_wp2_with fail
              (with_reducible refine (H3.out w2 HB2.out).mono ?_)
              rintro e w3 ⟨rfl, hb3⟩
              have HB3 := Lib.hid (HB2.out.trans (hb3.mono HB2.out.size))
              clear hb3
              go_wp2_with fail
              (with_reducible refine (H4y.out w3 HB3.out).mono ?_)
              rintro e w4 ⟨rfl, hb4⟩
              have HB4 := Lib.hid (HB3.out.trans (hb4.mono HB3.out.size))
              have hz4 := HB4.out.size
              clear hb4
              go_wp2_with fail
              have HB5 := Lib.hid (HB4.out.trans ((wall w4 (.cells #[.int .i64 id, .int .i64 y.kind, .int .i64 y.links, .int .i64 y.b.length, .int .u64 y.til, .bool y.closed] 29)).mono HB4.out.size))
              have q1 : (w4.alloc (.cells #[.int .i64 id, .int .i64 y.kind, .int .i64 y.links, .int .i64 y.b.length, .int .u64 y.til, .bool y.closed] 29)).cell? ⟨w4.heap.size, 1, none⟩ = some (.int .i64 y.kind) := cell_new w4 _ _ 1
              have hz5 : w4.heap.size < (w4.alloc (.cells #[.int .i64 id, .int .i64 y.kind, .int .i64 y.links, .int .i64 y.b.length, .int .u64 y.til, .bool y.closed] 29)).heap.size := by simp
              generalize (w4.alloc (.cells #[.int .i64 id, .int .i64 y.kind, .int .i64 y.links, .int .i64 y.b.length, .int .u64 y.til, .bool y.closed] 29)) = w5 at *
              (with_reducible refine (H5e.out w5 HB5.out).mono ?_)
              rintro e w6 ⟨rfl, rfl⟩
              go_wp2_with fail
              (with_reducible refine (H3p.out w5 HB5.out).mono ?_)
              rintro e w8 ⟨rfl, hb8⟩
              have HB8 := Lib.hid (HB5.out.trans (hb8.mono HB5.out.size))
              clear hb8
              go_wp2_with fail
              (with_reducible refine (H5p.out w8 HB8.out).mono ?_)
              rintro e w9 ⟨rfl, rfl⟩
              go_wp2_with fail
              (with_reducible refine (HCT.out w8 HB8.out).mono ?_)
              rintro e w9 ht9
              obtain ⟨rfl, hK9, hR9⟩ := ht9
              have HAD := Lib.hid (radd_tr d2 n2 id _ w9 hR9 HL1.out HX2.out.1 HX2.out.2)
              have HT9 : Hid (RTurn F w8 r (cutName T d1 n1) (.tuple #[]) (.returned (.tuple #[])) w9) := ⟨rfl, hK9, hR9⟩
              clear hK9 hR9
              go_wp2_with fail
              (with_reducible refine HAD.out.mono ?_)
              rintro e w10 ht10
              have HT10 := Lib.hid ht10
              obtain rfl := ht10.1
              clear ht10
              go_wp2_with fail
              go_ret
              rw [HQ.out]
              exact (RTurnP.behind HH.out.low HB8.out (HT9.out.trans (HH.out.below HB8.out (Nat.le_refl _)).low HT10.out)).val _
        · rw [if_pos h3] at hre
          have HQ := Lib.hid (renameM_bad hre h3)
          generalize placeM T ls' = pl at *
          obtain ⟨d2, n2, e2⟩ := pl
          simp only at h3 HQ H3
          have hne : (e2 == 0) = false := by simpa using h3
          have hne2 : (e2 != 0) = true := by simpa using h3
          clear h hO hT hS hS' hE hl2 hy hre hp0 hln hln' h3 H3p
          go_enter Tryz.func91, Tryz.ntmps91
          go_wp2_with fail
          (with_reducible refine H1.out.mono ?_)
          rintro e w1 ⟨rfl, hb1⟩
          have HB1 := Lib.hid hb1
          clear hb1
          go_wp2_with fail
          (with_reducible refine (H2.out w1 HB1.out).mono ?_)
          rintro e w2 ⟨rfl, hb2⟩
          have HB2 := Lib.hid (HB1.out.trans (hb2.mono HB1.out.size))
          clear hb2
          go_wp2_with fail
          (with_reducible refine (H3.out w2 HB2.out).mono ?_)
          rintro e w3 ⟨rfl, hb3⟩
          have HB3 := Lib.hid (HB2.out.trans (hb3.mono HB2.out.size))
          clear hb3
          go_wp2_with fail
          go_ret
          exact RTurn.no HH.out HB3.out HQ.out
    · have HQ : Hid (renameM T ls ls' = ((lookM T 0 ls).2, T)) := renameM_bad (by unfold renameE; rw [h0, if_neg (by simp), if_pos h1]) h1
      generalize lookM T 0 ls = lk at *
      obtain ⟨id, e1⟩ := lk
      simp only at h1 H2 HQ
      have hne : (e1 == 0) = false := by simpa using h1
      have hne2 : (e1 != 0) = true := by simpa using h1
      clear h hO hT hS hS' hE h0 h1 hln hln' H3p
      go_enter Tryz.func91, Tryz.ntmps91
      go_wp2_with fail
      (with_reducible refine H1.out.mono ?_)
      rintro e w1 ⟨rfl, hb1⟩
      have HB1 := Lib.hid hb1
      clear hb1
      go_wp2_with fail
      (with_reducible refine (H2.out w1 HB1.out).mono ?_)
      rintro e w2 ⟨rfl, hb2⟩
      have HB2 := Lib.hid (HB1.out.trans (hb2.mono HB1.out.size))
      clear hb2
      go_wp2_with fail
      go_ret
      exact RTurn.no HH.out HB2.out HQ.out
  · have HQ : Hid (renameM T ls ls' = (fine2 ls ls', T)) := renameM_bad (by unfold renameE; rw [if_pos h0]) h0
    generalize fine2 ls ls' = f0 at *
    have hne : (f0 == 0) = false := by simpa using h0
    have hne2 : (f0 != 0) = true := by simpa using h0
    clear h hO hT hS hS' hE h0 hln hln' H3p
    go_enter Tryz.func91, Tryz.ntmps91
    go_wp2_with fail
    (with_reducible refine H1.out.mono ?_)
    rintro e w1 ⟨rfl, hb1⟩
    have HB1 := Lib.hid hb1
    clear hb1
    go_wp2_with fail
    go_ret
    exact RTurn.no HH.out HB1.out HQ.out
end
end Go.Proofs.YtbapdoicejakhaaGreat
