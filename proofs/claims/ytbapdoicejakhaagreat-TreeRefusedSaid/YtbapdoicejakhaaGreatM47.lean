/- TreeRefused: the walk (frame: the arms are open). -/
import Derived.Test.YtbapdoicejakhaaGreatM43
import Derived.Test.YtbapdoicejakhaaGreatM46
namespace Go.Proofs.YtbapdoicejakhaaGreat.treeRefused
open Go.ChangeShapes Go.WideShapes Go.ChangeAt Go.RowKit
set_option linter.unusedVariables false
set_option linter.unusedSimpArgs false

theorem weaken {W w : World} {P P' : Nat → Prop} {p : Nat} {T : TrM} (h : TreeIn W P' w p T) (hP : ∀ x, P x → P' x) : TreeIn W P w p T := by
  obtain ⟨⟨g, D, mb, ib, nb, hA, hF⟩, hok, hb, hl⟩ := h
  exact ⟨⟨g, D, mb, ib, nb, hA, fun b hb => ⟨(hF b hb).1, fun hp => (hF b hb).2 (hP b hp)⟩⟩, hok, hb, fun x hx => hl x (hP x hx)⟩
def Held (W : World) (P : Nat → Prop) (t : Nat) (wx : World) : Prop := ∃ T, TreeIn W P wx t T ∧ Okay T
/-- Behind the call that was asked: refused, the tree is as it was. -/
def MidR (W : World) (P : Nat → Prop) (t : Nat) (T : TrM) (ev : Value) (wx : World) : Prop :=
  ∃ z T', ev = .int .i64 z ∧ TreeIn W P wx t T' ∧ Okay T' ∧ (z ≠ 0 → T' = T)
theorem MidR.of {W w w' : World} {P : Nat → Prop} {t : Nat} {T T' : TrM} {v : Value} {z : Int} {e : Ending} (h : InTurned W P w t T' v e w') (hO : Okay T') (hz : z ≠ 0 → T' = T) : MidR W P t T (.int .i64 z) w' := ⟨z, T', rfl, h.2.1, hO, hz⟩
set_option maxRecDepth 100000 in
set_option maxHeartbeats 64000000 in
theorem walk {H : Type} {enc : TypeId × Value → H} (W : World) (base : Nat) (v0 : Value) (d0 : DataW H) (p0 : List MemPlace) (o0 : Value.okWide Tryz.prog W .any base 22 v0) (h0 : DataW.Trod enc Tryz.prog W 0 (fun _ => true) true 22 v0 d0 p0) (l0 : ∀ x ∈ p0, x.block < W.heap.size) (hsz : (DataW.weightsEach Tryz.prog [22] ([d0] : List (DataW H))).all (· ≤ reachBytes) = true) :
    Calls Tryz.prog 9 #[v0] W (Fine W) := by
  obtain ⟨a, len, cap, rfl, hlc, hA⟩ : ∃ a len cap, v0 = .slice a len cap ∧ len ≤ cap ∧ AsksT W a len := by
    obtain ⟨a0, len, cap, rfl⟩ := okWide_slice Tryz.underlying22 o0
    obtain ⟨fuel, hf⟩ := h0
    refine open_asks11 hf l0 fun n hn => ?_
    have h1 := List.all_eq_true.1 hsz n (List.mem_append_left _ hn)
    simpa using h1
  have hlm := hA.1
  unfold maxLen at hlm
  have HA := Lib.hid hA
  clear o0 h0 l0 hsz hlc hA
  go_enter Tryz.func9, Tryz.ntmps9
  go_wp2_with fail
  (with_reducible refine (in_new W W (Below.refl _ _)).mono ?_)
  rintro e w1 ⟨t, rfl, hT1, hb1⟩
  have HST : Hid (Held W (fun x => x < W.heap.size) t w1) := ⟨newM, hT1, Okay.new⟩
  clear hT1 hb1
  go_wp2_with fail
  go_loopw [4] (fun i wr => ∃ k : Nat, i = .int .i64 k ∧ k ≤ 40 ∧ Held W (fun x => x < W.heap.size) t wr) (fun i _ => 40 - (intOf i).toNat)
  case atStart => exact ⟨0, rfl, by omega, HST.out⟩
  case round =>
    obtain ⟨k, rfl, hk40, T, hTr, hOk⟩ := hrel
    have HT := Lib.hid hTr
    have HO := Lib.hid hOk
    have HBW := Lib.hid hTr.below
    have hsW := hTr.below.size
    clear hTr hOk
    by_cases hlt : k < len
    · have hd1 : decide (k < len) = true := by simpa using hlt
      by_cases h40 : k < 40
      · obtain ⟨g, off, rfl, hgw, hAk⟩ := HA.out.2 (by omega)
        obtain ⟨x, ba, bn, bc, hx⟩ := hAk k hlt
        have hbW := HBW.out
        obtain ⟨d0, d1, d2, d3, d4, d5, d6, d7, d8⟩ := hx.cells
        have c0 := (hbW.cell (p := ⟨g, off + k * 9, none⟩) hgw).trans d0
        have c1 := (hbW.cell (p := ⟨g, off + k * 9 + 1, none⟩) hgw).trans d1
        have c2 := (hbW.cell (p := ⟨g, off + k * 9 + 2, none⟩) hgw).trans d2
        have c3 := (hbW.cell (p := ⟨g, off + k * 9 + 3, none⟩) hgw).trans d3
        have c4 := (hbW.cell (p := ⟨g, off + k * 9 + 4, none⟩) hgw).trans d4
        have c5 := (hbW.cell (p := ⟨g, off + k * 9 + 5, none⟩) hgw).trans d5
        have c6 := (hbW.cell (p := ⟨g, off + k * 9 + 6, none⟩) hgw).trans d6
        have c7 := (hbW.cell (p := ⟨g, off + k * 9 + 7, none⟩) hgw).trans d7
        have c8 := (hbW.cell (p := ⟨g, off + k * 9 + 8, none⟩) hgw).trans d8
        have HXO := Lib.hid hx.ok
        have HXR := Lib.hid (hx.row)
        have HXC := Lib.hid (And.intro hx.cap hx.reach)
        have i0 : (0 : Int) ≤ (k : Int) := by omega
        have i1 : (k : Int) < (len : Int) := by omega
        have i2 : (k : Int) < 40 := by omega
        have hd2 : decide ((k : Int) < 40) = true := by simpa using i2
        have HSV := Lib.hid (fun (w' : World) (hb : Below wr.heap.size wr w') => in_save (HT.out.grow hb))
        clear hAk hx hbW d0 d1 d2 d3 d4 d5 d6 d7 d8
        go_wp2_with fail
        obtain ⟨w2, hw2⟩ : ∃ w2, w2 = wr.alloc (.cells (askTC ba bn bc x) 66) := ⟨_, rfl⟩
        have hwa : Below wr.heap.size wr w2 := by rw [hw2]; exact wall wr _
        have hq2 : w2.heap[wr.heap.size]? = some (.cells (askTC ba bn bc x) 66 (0, 0)) := by rw [hw2]; exact (MapKept.heap_alloc wr _).1
        have HSV2 : Hid (Calls Tryz.prog 38 #[ptr t] (wr.alloc (.cells (askTC ba bn bc x) 66)) (RetRow w2 (saveB T))) := by rw [← hw2]; exact HSV.out w2 hwa
        unfold askTC at HSV2
        (with_reducible refine HSV2.out.mono ?_)
        rintro e w3 ⟨a3, n3, c3, rfl, hc3, hr3, hb3⟩
        have hqw2 := (Array.getElem?_eq_some_iff.1 hq2).1
        have hha : w3.heap[wr.heap.size]? = some (.cells (askTC ba bn bc x) 66 (0, 0)) := (hb3.block wr.heap.size hqw2).trans hq2
        have hb03 : Below wr.heap.size wr w3 := hwa.trans (hb3.mono hwa.size)
        have hcv := conv_row (c := c3) hr3
        have HT3 := Lib.hid (HT.out.shield hb03)
        have HB03 := Lib.hid hb03
        have HHA := Lib.hid hha
        have hqw3 := (Array.getElem?_eq_some_iff.1 hha).1
        obtain ⟨c0, c1, c2, c3', c4, c5, c6, c7, c8⟩ := ask_cells (q := wr.heap.size) (x := x) hha
        have HKP : Hid (∀ w', Below w3.heap.size w3 w' → w'.cell? ⟨wr.heap.size, 1, none⟩ = some (.int .i64 x.P) ∧ w'.cell? ⟨wr.heap.size, 2, none⟩ = some (.int .i64 x.to_)) := fun w' hb => ⟨(hb.cell (p := ⟨wr.heap.size, 1, none⟩) hqw3).trans c1, (hb.cell (p := ⟨wr.heap.size, 2, none⟩) hqw3).trans c2⟩
        clear hq2 hw2 hwa hr3 hb3 hha hb03 HSV HSV2 c0 c3' c4 c5 c6 c7 c8
        go_wp2_with fail
        refine wp_region_noPanic ?_
        refine wp_region_held_drew (S := (fun w' => w'.cell? ⟨wr.heap.size, 1, none⟩ = some (.int .i64 x.P) ∧ w'.cell? ⟨wr.heap.size, 2, none⟩ = some (.int .i64 x.to_))) (by kernel_rfl) ?_ (fun hS => ?_)
        · exact HKP.out _ (Below.refl _ _).drew
        refine wpAnyH_take (i := 0) (oi := ?oi1) (v := ?v1) ?hi1 (by kernel_rfl) (by kernel_rfl) (by kernel_rfl) ?hq1 (Or.inl ⟨?hw1, ?hy1⟩) hS ?rest1
        case hi1 => simp only [List.getElem?_toArray, List.getElem?_cons_succ, List.getElem?_cons_zero]; rfl
        case hq1 => exact fun _ _ _ h => h
        case hw1 => rfl
        case hy1 => intro w hSw; (try dsimp only at hSw); go_simp; (try with_reducible rfl)
        try simp only [Act.put, List.setIfInBounds_toArray, List.set_cons_zero, List.set_cons_succ]
        refine wpAnyH_take (i := 1) (oi := ?oi2) (v := ?v2) ?hi2 (by kernel_rfl) (by kernel_rfl) (by kernel_rfl) ?hq2 (Or.inl ⟨?hw2, ?hy2⟩) hS ?rest2
        case hi2 => simp only [List.getElem?_toArray, List.getElem?_cons_succ, List.getElem?_cons_zero]; rfl
        case hq2 => exact fun _ _ _ h => h
        case hw2 => rfl
        case hy2 => intro w hSw; (try dsimp only at hSw); go_simp; (try with_reducible rfl)
        try simp only [Act.put, List.setIfInBounds_toArray, List.set_cons_zero, List.set_cons_succ]
        refine wpAnyH_take (i := 3) (oi := ?oi3) (v := ?v3) ?hi3 (by kernel_rfl) (by kernel_rfl) (by kernel_rfl) ?hq3 (Or.inl ⟨?hw3, ?hy3⟩) hS ?rest3
        case hi3 => simp only [List.getElem?_toArray, List.getElem?_cons_succ, List.getElem?_cons_zero]; rfl
        case hq3 => exact fun _ _ _ h => h
        case hw3 => rfl
        case hy3 => intro w hSw; (try dsimp only at hSw); go_simp; (try with_reducible rfl)
        try simp only [Act.put, List.setIfInBounds_toArray, List.set_cons_zero, List.set_cons_succ]
        refine wpAnyH_take (i := 4) (oi := ?oi4) (v := ?v4) ?hi4 (by kernel_rfl) (by kernel_rfl) (by kernel_rfl) ?hq4 (Or.inl ⟨?hw4, ?hy4⟩) hS ?rest4
        case hi4 => simp only [List.getElem?_toArray, List.getElem?_cons_succ, List.getElem?_cons_zero]; rfl
        case hq4 => exact fun _ _ _ h => h
        case hw4 => rfl
        case hy4 => intro w hSw; (try dsimp only at hSw); go_simp; (try with_reducible rfl)
        try simp only [Act.put, List.setIfInBounds_toArray, List.set_cons_zero, List.set_cons_succ]
        refine wpAnyH_ready (rs := [2]) (by kernel_rfl) (by simp) ?_
        refine AllReadyH.cons (o := ?o5) ?ho5 (fun K hK => ?_) AllReadyH.nil
        case ho5 => simp only [List.getElem?_toArray, List.getElem?_cons_succ, List.getElem?_cons_zero]; rfl
        go_simp
        (with_reducible refine (names_any _ HXO.out.wp _).mono ?_)
        rintro e w4 ⟨a1, k1, rfl, hk1, hs1, hb4⟩
        have hB34 : Below w3.heap.size w3 w4 := (Below.refl _ _).drew.trans hb4
        go_wp2_with fail
        refine hK.out _ _ (HKP.out _ hB34) (fun hS => ?_)
        clear hK K
        try simp only [Act.put, List.setIfInBounds_toArray, List.set_cons_zero, List.set_cons_succ]
        refine wpAnyH_ready (rs := [5]) (by kernel_rfl) (by simp) ?_
        refine AllReadyH.cons (o := ?o6) ?ho6 (fun K hK => ?_) AllReadyH.nil
        case ho6 => simp only [List.getElem?_toArray, List.getElem?_cons_succ, List.getElem?_cons_zero]; rfl
        go_simp
        (with_reducible refine (names_any _ HXO.out.wt _).mono ?_)
        rintro e w5 ⟨a2, k2, rfl, hk2, hs2, hb5⟩
        have hB35 : Below w3.heap.size w3 w5 := hB34.trans (hb5.mono hB34.size)
        go_wp2_with fail
        refine hK.out _ _ (HKP.out _ hB35) (fun hS => ?_)
        clear hK K
        try simp only [Act.put, List.setIfInBounds_toArray, List.set_cons_zero, List.set_cons_succ]
        refine wpAnyH_take (i := 6) (oi := ?oi7) (v := ?v7) ?hi7 (by kernel_rfl) (by kernel_rfl) (by kernel_rfl) ?hq7 (Or.inl ⟨?hw7, ?hy7⟩) hS ?rest7
        case hi7 => simp only [List.getElem?_toArray, List.getElem?_cons_succ, List.getElem?_cons_zero]; rfl
        case hq7 => exact fun _ _ _ h => h
        case hw7 => rfl
        case hy7 => intro w hSw; (try dsimp only at hSw); go_simp; (try with_reducible rfl)
        try simp only [Act.put, List.setIfInBounds_toArray, List.set_cons_zero, List.set_cons_succ]
        refine wpAnyH_take (i := 7) (oi := ?oi8) (v := ?v8) ?hi8 (by kernel_rfl) (by kernel_rfl) (by kernel_rfl) ?hq8 (Or.inl ⟨?hw8, ?hy8⟩) hS ?rest8
        case hi8 => simp only [List.getElem?_toArray, List.getElem?_cons_succ, List.getElem?_cons_zero]; rfl
        case hq8 => exact fun _ _ _ h => h
        case hw8 => rfl
        case hy8 => intro w hSw; (try dsimp only at hSw); go_simp; (try with_reducible rfl)
        try simp only [Act.put, List.setIfInBounds_toArray, List.set_cons_zero, List.set_cons_succ]
        refine wpAnyH_done (by kernel_rfl) ?_ _
        refine NoPanic.normal ?_
        clear hS
        have hh5 : w5.heap[wr.heap.size]? = some (.cells (askTC ba bn bc x) 66 (0, 0)) := (hB35.block _ hqw3).trans HHA.out
        obtain ⟨f0, f1, f2, f3, f4, f5, f6, f7, f8⟩ := ask_cells hh5
        have HH5 := Lib.hid hh5
        have HT5 := Lib.hid (HT3.out.shield hB35)
        have HS1 : Hid (StrsAt (fun b => w3.heap.size ≤ b ∧ b < w5.heap.size) w5 a1 (namesL x.P).length ((namesL x.P).map strOf)) := by
          refine (hs1.below hb5 (Nat.le_refl _)).mono fun b hb => ⟨hb.1, ?_⟩
          have := hb5.size
          omega
        have HS2 : Hid (StrsAt (fun b => w3.heap.size ≤ b ∧ b < w5.heap.size) w5 a2 (namesL x.to_).length ((namesL x.to_).map strOf)) := by
          refine hs2.mono fun b hb => ⟨?_, hb.2⟩
          have := hb4.size
          have := hB34.size
          omega
        clear hs1 hs2 hb4 hb5 hB34 hh5
        obtain ⟨q, hq⟩ : ∃ q, q = wr.heap.size := ⟨_, rfl⟩
        rw [← hq] at hqw3 HKP HH5 f0 f1 f2 f3 f4 f5 f6 f7 f8 ⊢
        have hn1 := namesL_small x.P
        have hn2 := namesL_small x.to_
        generalize hg1 : namesL x.P = l1 at *
        generalize hg2 : namesL x.to_ = l2 at *
        obtain ⟨m1, hm1⟩ : ∃ m, m = l1.length := ⟨_, rfl⟩
        obtain ⟨m2, hm2⟩ : ∃ m, m = l2.length := ⟨_, rfl⟩
        rw [← hm1] at hk1 hn1 HS1 ⊢
        rw [← hm2] at hk2 hn2 HS2 ⊢
        have hq5 : q < w5.heap.size := by have := hB35.size; omega
        obtain ⟨P1, hP1⟩ : ∃ P1 : Nat → Prop, P1 = fun z => z < W.heap.size ∨ (wr.heap.size ≤ z ∧ z < w5.heap.size) := ⟨_, rfl⟩
        have hTP : TreeIn W P1 w5 t T := by
          rw [hP1]
          exact HT.out.shield (HB03.out.trans (hB35.mono HB03.out.size))
        have HTP := Lib.hid hTP
        have HXR5 := Lib.hid (HXR.out.below hTP.below (Nat.le_refl _))
        have HQP : Hid (P1 q) := by
          show P1 q
          rw [hP1]
          exact .inr ⟨by omega, hq5⟩
        have HPW : Hid (∀ z, z < W.heap.size → P1 z) := fun z hz => by
          rw [hP1]
          exact .inl hz
        obtain ⟨sv, hsv⟩ : ∃ sv, sv = saveB T := ⟨_, rfl⟩
        rw [← hsv]
        have HSE := Lib.hid hsv
        clear hg1 hg2 hm1 hm2 hsv hq hP1 hTP
        go_upto_block 2 with (fail)
        go_cut [9] from 38 to 117 (fun ev wx => MidR W P1 t T ev wx)
        case first =>
          by_cases hk : x.kind = 1
          · have e1 : (x.kind == 1) = true := by simpa using hk
            clear hk
            as_aux_lemma =>
              have HKD : Hid (∀ wz, Calls Tryz.prog 50 #[askTV ba bn bc x] wz fun e w' => e = .returned (.int .i64 (if x.dir = true then 2 else 1)) ∧ Below wz.heap.size wz w') := fun wz => kind_any ba bn bc x wz
              generalize (if x.dir = true then 2 else 1 : Int) = kd at HKD
              unfold askTV at HKD
              go_wp2_with fail
              (with_reducible refine (HKD.out _).mono ?_)
              rintro e w6 ⟨rfl, hb6⟩
              have HB6 := Lib.hid hb6
              clear hb6
              go_wp2_with fail
              (with_reducible refine (in_make (HTP.out.grow HB6.out) a1 m1 k1 l1 kd (HS1.out.below HB6.out (Nat.le_refl _)) hk1 (by omega)).mono ?_)
              rintro e w7 ht7
              have HT7 := Lib.hid ht7
              obtain rfl := ht7.1
              clear ht7
              go_wp2_with fail
              go_meet
              exact MidR.of HT7.out (HO.out.makeM l1 kd) (fun h => make_same h)
          · have e1 : (x.kind == 1) = false := by simpa using hk
            clear hk
            by_cases hk : x.kind = 2
            · have e2 : (x.kind == 2) = true := by simpa using hk
              clear hk
              as_aux_lemma =>
                go_wp2_with fail
                (with_reducible refine (in_link HTP.out a1 m1 k1 l1 a2 m2 k2 l2 HS1.out HS2.out hk2 (by omega)).mono ?_)
                rintro e w7 ht7
                have HT7 := Lib.hid ht7
                obtain rfl := ht7.1
                clear ht7
                go_wp2_with fail
                go_meet
                exact MidR.of HT7.out (HO.out.linkM l1 l2) (fun h => link_same h)
            · have e2 : (x.kind == 2) = false := by simpa using hk
              clear hk
              by_cases hk : x.kind = 3
              · have e3 : (x.kind == 3) = true := by simpa using hk
                clear hk
                as_aux_lemma =>
                  go_wp2_with fail
                  (with_reducible refine (in_unlink HTP.out a1 m1 k1 l1 HS1.out hk1 (by omega)).mono ?_)
                  rintro e w7 ht7
                  have HT7 := Lib.hid ht7
                  obtain rfl := ht7.1
                  clear ht7
                  go_wp2_with fail
                  go_meet
                  exact MidR.of HT7.out (HO.out.unlinkM l1) (fun h => unlink_same h)
              · have e3 : (x.kind == 3) = false := by simpa using hk
                clear hk
                by_cases hk : x.kind = 4
                · have e4 : (x.kind == 4) = true := by simpa using hk
                  clear hk
                  as_aux_lemma =>
                    go_wp2_with fail
                    (with_reducible refine (in_rmdir HTP.out a1 m1 k1 l1 HS1.out hk1 (by omega)).mono ?_)
                    rintro e w7 ht7
                    have HT7 := Lib.hid ht7
                    obtain rfl := ht7.1
                    clear ht7
                    go_wp2_with fail
                    go_meet
                    exact MidR.of HT7.out (HO.out.rmdirM l1) (fun h => rmdir_same h)
                · have e4 : (x.kind == 4) = false := by simpa using hk
                  clear hk
                  by_cases hk : x.kind = 5
                  · have e5 : (x.kind == 5) = true := by simpa using hk
                    clear hk
                    as_aux_lemma =>
                      go_wp2_with fail
                      (with_reducible refine (in_rename HTP.out HO.out a1 m1 k1 l1 a2 m2 k2 l2 HS1.out HS2.out hk1 (by omega) hk2 (by omega)).mono ?_)
                      rintro e w7 ht7
                      have HT7 := Lib.hid ht7
                      obtain rfl := ht7.1
                      clear ht7
                      go_wp2_with fail
                      go_meet
                      exact MidR.of HT7.out (HO.out.renameM l1 l2) (fun h => rename_same h)
                  · have e5 : (x.kind == 5) = false := by simpa using hk
                    clear hk
                    by_cases hk : x.kind = 6
                    · have e6 : (x.kind == 6) = true := by simpa using hk
                      clear hk
                      as_aux_lemma =>
                        have HKQ : Hid (∀ w', Keeps (Wild W P1) w5 w' → w'.cell? ⟨q, 4, none⟩ = some (.int .i64 x.id) ∧ w'.cell? ⟨q, 7, none⟩ = some (.slice ba bn bc)) := fun w' hK => by
                          have hh6 := (hK.block q hq5 (fun hw => hw.2 HQP.out)).trans HH5.out
                          obtain ⟨d0, d1, d2, d3, d4, d5, d6, d7, d8⟩ := ask_cells hh6
                          exact ⟨d4, d7⟩
                        have HCT : Hid (∀ wz : World, Calls Tryz.prog 45 #[.slice ba bn bc, .int .i64 100] wz fun e w' => e = .returned (.slice ba (min bn 100) bc) ∧ wz = w') := fun wz => cut_any ba bn bc 100 HXC.out.1 (by omega) (by have := HXC.out.2; unfold maxLen; omega) wz
                        have HROW : Hid (RowAt (fun b => b < W.heap.size) w5 ba (min bn 100) ((x.b.take 100).map bv)) := by
                          have := HXR5.out.take 100
                          rwa [← List.map_take] at this
                        have hbn100 : min bn 100 ≤ 100 := Nat.min_le_right _ _
                        generalize min bn 100 = bm at *
                        have HDR := Lib.hid (HTP.out.grow (Below.refl _ _).drew)
                        go_wp2_with fail
                        refine wp_region_noPanic ?_
                        refine wp_region_held_drew (S := (fun w' => w'.cell? ⟨q, 4, none⟩ = some (.int .i64 x.id) ∧ w'.cell? ⟨q, 7, none⟩ = some (.slice ba bn bc))) (by kernel_rfl) ?_ (fun hS => ?_)
                        · exact ⟨f4, f7⟩
                        refine wpAnyH_take (i := 0) (oi := ?oi9) (v := ?v9) ?hi9 (by kernel_rfl) (by kernel_rfl) (by kernel_rfl) ?hq9 (Or.inl ⟨?hw9, ?hy9⟩) hS ?rest9
                        case hi9 => simp only [List.getElem?_toArray, List.getElem?_cons_succ, List.getElem?_cons_zero]; rfl
                        case hq9 => exact fun _ _ _ h => h
                        case hw9 => rfl
                        case hy9 => intro w hSw; (try dsimp only at hSw); go_simp; (try with_reducible rfl)
                        try simp only [Act.put, List.setIfInBounds_toArray, List.set_cons_zero, List.set_cons_succ]
                        refine wpAnyH_take (i := 1) (oi := ?oi10) (v := ?v10) ?hi10 (by kernel_rfl) (by kernel_rfl) (by kernel_rfl) ?hq10 (Or.inl ⟨?hw10, ?hy10⟩) hS ?rest10
                        case hi10 => simp only [List.getElem?_toArray, List.getElem?_cons_succ, List.getElem?_cons_zero]; rfl
                        case hq10 => exact fun _ _ _ h => h
                        case hw10 => rfl
                        case hy10 => intro w hSw; (try dsimp only at hSw); go_simp; (try with_reducible rfl)
                        try simp only [Act.put, List.setIfInBounds_toArray, List.set_cons_zero, List.set_cons_succ]
                        refine wpAnyH_take (i := 2) (oi := ?oi11) (v := ?v11) ?hi11 (by kernel_rfl) (by kernel_rfl) (by kernel_rfl) ?hq11 (Or.inl ⟨?hw11, ?hy11⟩) hS ?rest11
                        case hi11 => simp only [List.getElem?_toArray, List.getElem?_cons_succ, List.getElem?_cons_zero]; rfl
                        case hq11 => exact fun _ _ _ h => h
                        case hw11 => rfl
                        case hy11 => intro w hSw; (try dsimp only at hSw); go_simp; (try with_reducible rfl)
                        try simp only [Act.put, List.setIfInBounds_toArray, List.set_cons_zero, List.set_cons_succ]
                        refine wpAnyH_take (i := 3) (oi := ?oi12) (v := ?v12) ?hi12 (by kernel_rfl) (by kernel_rfl) (by kernel_rfl) ?hq12 (Or.inl ⟨?hw12, ?hy12⟩) hS ?rest12
                        case hi12 => simp only [List.getElem?_toArray, List.getElem?_cons_succ, List.getElem?_cons_zero]; rfl
                        case hq12 => exact fun _ _ _ h => h
                        case hw12 => rfl
                        case hy12 => intro w hSw; (try dsimp only at hSw); go_simp; (try with_reducible rfl)
                        try simp only [Act.put, List.setIfInBounds_toArray, List.set_cons_zero, List.set_cons_succ]
                        refine wpAnyH_take (i := 4) (oi := ?oi13) (v := ?v13) ?hi13 (by kernel_rfl) (by kernel_rfl) (by kernel_rfl) ?hq13 (Or.inl ⟨?hw13, ?hy13⟩) hS ?rest13
                        case hi13 => simp only [List.getElem?_toArray, List.getElem?_cons_succ, List.getElem?_cons_zero]; rfl
                        case hq13 => exact fun _ _ _ h => h
                        case hw13 => rfl
                        case hy13 => intro w hSw; (try dsimp only at hSw); go_simp; (try with_reducible rfl)
                        try simp only [Act.put, List.setIfInBounds_toArray, List.set_cons_zero, List.set_cons_succ]
                        refine wpAnyH_ready (rs := [5]) (by kernel_rfl) (by simp) ?_
                        refine AllReadyH.cons (o := ?o14) ?ho14 (fun K hK => ?_) AllReadyH.nil
                        case ho14 => simp only [List.getElem?_toArray, List.getElem?_cons_succ, List.getElem?_cons_zero]; rfl
                        go_simp
                        (with_reducible refine (HCT.out _).mono ?_)
                        rintro e w6 ⟨rfl, rfl⟩
                        go_wp2_with fail
                        refine hK.out _ _ (⟨f4, f7⟩) (fun hS => ?_)
                        clear hK K
                        try simp only [Act.put, List.setIfInBounds_toArray, List.set_cons_zero, List.set_cons_succ]
                        refine wpAnyH_ready (rs := [6]) (by kernel_rfl) (by simp) ?_
                        refine AllReadyH.cons (o := ?o15) ?ho15 (fun K hK => ?_) AllReadyH.nil
                        case ho15 => simp only [List.getElem?_toArray, List.getElem?_cons_succ, List.getElem?_cons_zero]; rfl
                        go_simp
                        (with_reducible refine (in_append HDR.out x.id ba bm bc (x.b.take 100) HXO.out.wi (HROW.out.below (Below.refl _ _).drew (Nat.le_refl _)) (by omega)).mono ?_)
                        rintro e w7 ht7
                        have HT7 := Lib.hid (ht7.behind (Below.refl _ _).drew)
                        obtain rfl := ht7.1
                        clear ht7
                        go_wp2_with fail
                        refine hK.out _ _ (HKQ.out _ HT7.out.kp) (fun hS => ?_)
                        clear hK K
                        try simp only [Act.put, List.setIfInBounds_toArray, List.set_cons_zero, List.set_cons_succ]
                        refine wpAnyH_take (i := 7) (oi := ?oi16) (v := ?v16) ?hi16 (by kernel_rfl) (by kernel_rfl) (by kernel_rfl) ?hq16 (Or.inl ⟨?hw16, ?hy16⟩) hS ?rest16
                        case hi16 => simp only [List.getElem?_toArray, List.getElem?_cons_succ, List.getElem?_cons_zero]; rfl
                        case hq16 => exact fun _ _ _ h => h
                        case hw16 => rfl
                        case hy16 => intro w hSw; (try dsimp only at hSw); go_simp; (try with_reducible rfl)
                        try simp only [Act.put, List.setIfInBounds_toArray, List.set_cons_zero, List.set_cons_succ]
                        refine wpAnyH_done (by kernel_rfl) ?_ _
                        refine NoPanic.normal ?_
                        clear hS
                        go_wp2_with fail
                        go_meet
                        exact MidR.of HT7.out (HO.out.appendM _ _) (fun h => append_same h)
                    · have e6 : (x.kind == 6) = false := by simpa using hk
                      clear hk
                      by_cases hk : x.kind = 8
                      · have e8 : (x.kind == 8) = true := by simpa using hk
                        clear hk
                        as_aux_lemma =>
                          go_wp2_with fail
                          (with_reducible refine (in_seal HTP.out x.id x.til HXO.out.wi HXO.out.wu.1 HXO.out.wu.2).mono ?_)
                          rintro e w7 ht7
                          have HT7 := Lib.hid ht7
                          obtain rfl := ht7.1
                          clear ht7
                          go_wp2_with fail
                          go_meet
                          exact MidR.of HT7.out (HO.out.sealM x.id x.til HXO.out.wu.1) (fun h => seal_same h)
                      · have e8 : (x.kind == 8) = false := by simpa using hk
                        clear hk
                        by_cases hk : x.kind = 9
                        · have e9 : (x.kind == 9) = true := by simpa using hk
                          clear hk
                          as_aux_lemma =>
                            go_wp2_with fail
                            (with_reducible refine (in_keep HTP.out x.id x.til HXO.out.wi HXO.out.wu.1 HXO.out.wu.2).mono ?_)
                            rintro e w7 ht7
                            have HT7 := Lib.hid ht7
                            obtain rfl := ht7.1
                            clear ht7
                            go_wp2_with fail
                            go_meet
                            exact MidR.of HT7.out (HO.out.keepM x.id x.til HXO.out.wu.1) (fun h => keep_same h)
                        · have e9 : (x.kind == 9) = false := by simpa using hk
                          clear hk
                          by_cases hk : x.kind = 10
                          · have e10 : (x.kind == 10) = true := by simpa using hk
                            clear hk
                            as_aux_lemma =>
                              go_wp2_with fail
                              (with_reducible refine (in_drop HTP.out x.id HXO.out.wi).mono ?_)
                              rintro e w7 ht7
                              have HT7 := Lib.hid ht7
                              obtain rfl := ht7.1
                              clear ht7
                              go_wp2_with fail
                              go_meet
                              exact MidR.of HT7.out (HO.out.dropM x.id) (fun h => drop_same h)
                          · have e10 : (x.kind == 10) = false := by simpa using hk
                            clear hk
                            as_aux_lemma =>
                              go_wp2_with fail
                              (with_reducible refine (in_read HTP.out x.id x.at_ x.n HXO.out.wi HXO.out.wa HXO.out.wn).mono ?_)
                              rintro e w6 ⟨a6, n6, k6, rfl, -, -, hb6⟩
                              have HT6 := Lib.hid (HTP.out.grow hb6)
                              have d4 := (hb6.cell (p := ⟨q, 4, none⟩) hq5).trans f4
                              have hq6 : q < w6.heap.size := Nat.lt_of_lt_of_le hq5 hb6.size
                              clear hb6 f0 f1 f2 f3 f4 f5 f6 f7 f8
                              go_wp2_with fail
                              (with_reducible refine (in_list HT6.out x.id HXO.out.wi).mono ?_)
                              rintro e w7 ⟨a7, k7, rfl, -, -, hb7⟩
                              have HT7 := Lib.hid (HT6.out.grow hb7)
                              have e4 := (hb7.cell (p := ⟨q, 4, none⟩) hq6).trans d4
                              clear hb7 d4
                              go_wp2_with fail
                              (with_reducible refine (in_names HT7.out HO.out x.id).mono ?_)
                              rintro e w8 ⟨a8, c8, vals, l8, rfl, -, -, -, -, hb8⟩
                              have HT8 := Lib.hid (HT7.out.grow hb8)
                              clear hb8
                              go_wp2_with fail
                              go_meet
                              exact ⟨1, T, rfl, HT8.out, HO.out, fun _ => rfl⟩
        case rest =>
          as_aux_lemma =>
            obtain ⟨z, T2, rfl, hT2, hO2, hz⟩ := hcut
            have HT2 := Lib.hid hT2
            have HO2 := Lib.hid hO2
            by_cases h0 : z = 0
            · subst h0
              clear hT2 hO2 hz
              go_wp2_with fail
              go_roundw
              case rel => exact ⟨k + 1, rfl, by omega, T2, weaken HT2.out HPW.out, HO2.out⟩
              case measure => show 40 - (k + 1) < 40 - k; omega
            · have hz1 : (z != 0) = true := by simpa using h0
              have hTT := hz h0
              subst hTT
              have hsv := in_save hT2
              rw [← HSE.out] at hsv
              have HSV9 := Lib.hid hsv
              clear hT2 hO2 hz hsv h0
              go_wp2_with fail
              (with_reducible refine HSV9.out.mono ?_)
              rintro e w9 ⟨a9, n9, c9, rfl, hc9, hr9, hb9⟩
              have hcv9 := conv_row (c := c9) hr9
              have HT9 := Lib.hid (HT2.out.grow hb9)
              clear hr9 hb9
              go_wp2_with fail
              go_roundw
              case rel => exact ⟨k + 1, rfl, by omega, T2, weaken HT9.out HPW.out, HO2.out⟩
              case measure => show 40 - (k + 1) < 40 - k; omega
      · have hd2 : decide ((k : Int) < 40) = false := by simp; omega
        clear h40 hlt
        go_wp2_with fail
        (with_reducible refine (known11_any _).mono ?_)
        rintro e w9 ⟨rfl, hb9⟩
        have HB9 := Lib.hid (HBW.out.trans (hb9.mono hsW))
        clear hb9
        go_wp2_with fail
        go_ret
        exact ⟨rfl, HB9.out⟩
    · have hd1 : decide (k < len) = false := by simpa using hlt
      clear hlt
      go_wp2_with fail
      (with_reducible refine (known11_any _).mono ?_)
      rintro e w9 ⟨rfl, hb9⟩
      have HB9 := Lib.hid (HBW.out.trans (hb9.mono hsW))
      clear hb9
      go_wp2_with fail
      go_ret
      exact ⟨rfl, HB9.out⟩
end Go.Proofs.YtbapdoicejakhaaGreat.treeRefused
