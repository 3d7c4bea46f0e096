/- The reference: Keep, Seal. The reference: Seal. The reference: Drop. -/
import Derived.Test.YtbapdoicejakhaaGreatM35
namespace Go.Proofs.YtbapdoicejakhaaGreat
open Go.ChangeShapes Go.WideShapes Go.ChangeAt Go.RowKit
set_option linter.unusedVariables false
set_option linter.unusedSimpArgs false

theorem keepM_bad {T : TrM} {id til v : Int} (h : keepE T id til = v) (hv : v ≠ 0) : keepM T id til = (v, T) := by
  unfold keepM
  rw [h, if_neg hv]
theorem sealM_bad {T : TrM} {id til v : Int} (h : sealE T id til = v) (hv : v ≠ 0) : sealM T id til = (v, T) := by
  unfold sealM
  rw [h, if_neg hv]
section
variable {F : Nat → Prop} {r : Nat} {T : TrM}
set_option maxRecDepth 100000 in
set_option maxHeartbeats 8000000 in
theorem rkeep_any (id til : Int) (w : World) (h : RefAt F w r T) (hT : OkM T) (ht0 : 0 ≤ til ∧ til ≤ 18446744073709551615) :
    Calls Tryz.prog 33 #[ptr r, .int .i64 id, .int .u64 til] w (RTurn F w r (keepM T id til).2 (.int .i64 (keepM T id til).1)) := by
  have HF := Lib.hid (rfile_any id w h hT.toOkP)
  have hr0 := h.low r h.own
  have HH := Lib.hid h
  by_cases h0 : fileE T id = 0
  · obtain ⟨x, hx, hk⟩ : ∃ x, aget id T = some x ∧ x.kind ≠ 2 := by
      unfold fileE at h0
      cases hx : aget id T with
      | none => rw [hx] at h0; cases h0
      | some x =>
        rw [hx] at h0
        exact ⟨x, rfl, fun hk => by simp [hk] at h0⟩
    obtain ⟨k, hi, hq⟩ := idx_some hT.sorted hx
    have hrf : rfI T id = k := by unfold rfI; rw [if_pos h0]; exact hi
    rw [hrf, h0] at HF
    obtain ⟨bN, oN, cN, hc0, hO, hbw, hkl, c0, c1, c2, c3, c4, c5⟩ := h.node hq
    simp only at c0 c1 c2 c3 c4 c5
    have i0 : (0 : Int) ≤ k := by omega
    have hlen := hT.len
    have HQX := Lib.hid hq
    have HS := Lib.hid hT.sorted
    obtain ⟨i6, a6, b6, s6, d6⟩ := info_parts nodeInfo
    have HI6 := Lib.hid (And.intro a6 (And.intro b6 (And.intro s6 d6)))
    obtain ⟨aN, cN', aD, cD, aE, cE, h1, h2, h3, h4, h8, h9, h10, h11⟩ := h.head
    obtain ⟨p0, p1, p2, pf⟩ := head_facts h1
    rw [p0] at hc0
    simp only [Option.some.injEq, Value.slice.injEq, true_and] at hc0
    obtain ⟨rfl, rfl⟩ := hc0
    have HP1 := Lib.hid h1
    have HSR := Lib.hid h8
    obtain ⟨n, hn⟩ : ∃ n, n = T.length := ⟨_, rfl⟩
    rw [← hn] at p0 hlen hkl h2 HSR
    have HNE := Lib.hid hn
    have hf0 := pf 0
    have hfp := hO.2
    have i1 : (k : Int) < n := by omega
    have hrw := hr0
    have HO1 := Lib.hid (hT.each id x hx)
    have HX := Lib.hid hx
    have hkx := hk
    clear a6 b6 s6 d6 h1 h8 h9 h10 h11 hi hrf h hq hn p1 p2 pf hO hT h0
    have he : keepE T id til = if x.closed = false then 25 else if til < x.til then 28 else if 1099511627776 < til then 1 else 0 := by
      unfold keepE
      rw [hx]
      simp only [if_neg hk]
    clear hx hk hkx
    cases hcl : x.closed with
    | false =>
      rw [hcl] at c5
      have HQ := Lib.hid (keepM_bad (he.trans (if_pos hcl)) (by omega))
      clear hcl he
      go_enter Tryz.func33, Tryz.ntmps33
      go_wp2_with fail
      (with_reducible refine HF.out.mono ?_)
      rintro e w1 ⟨rfl, rfl⟩
      go_wp2_with fail
      go_ret
      exact RTurn.no HH.out (Below.refl _ _) HQ.out
    | true =>
      rw [hcl] at c5
      rw [if_neg (by rw [hcl]; decide)] at he
      by_cases h5 : til < x.til
      · have HQ := Lib.hid (keepM_bad (he.trans (if_pos h5)) (by omega))
        have hd5 : decide (til < x.til) = true := by simpa using h5
        clear hcl he
        go_enter Tryz.func33, Tryz.ntmps33
        go_wp2_with fail
        (with_reducible refine HF.out.mono ?_)
        rintro e w1 ⟨rfl, rfl⟩
        go_wp2_with fail
        go_ret
        exact RTurn.no HH.out (Below.refl _ _) HQ.out
      · rw [if_neg h5] at he
        have hd5 : decide (til < x.til) = false := by simpa using h5
        by_cases h6 : 1099511627776 < til
        · have HQ := Lib.hid (keepM_bad (he.trans (if_pos h6)) (by omega))
          have hd6 : decide ((1099511627776 : Int) < til) = true := by simpa using h6
          clear hcl he
          go_enter Tryz.func33, Tryz.ntmps33
          go_wp2_with fail
          (with_reducible refine HF.out.mono ?_)
          rintro e w1 ⟨rfl, rfl⟩
          go_wp2_with fail
          go_ret
          exact RTurn.no HH.out (Below.refl _ _) HQ.out
        · have hd6 : decide ((1099511627776 : Int) < til) = false := by simpa using h6
          have HQ : Hid (keepM T id til = (0, amod id (fun x => { x with til := til }) T)) := by
            show keepM T id til = _
            unfold keepM
            rw [he, if_neg h6]
            rfl
          clear hcl he
          go_enter Tryz.func33, Tryz.ntmps33
          go_wp2_with fail
          (with_reducible refine HF.out.mono ?_)
          rintro e w1 ⟨rfl, rfl⟩
          go_upto_region 10 with (fail)
          go_cut [] (fun wx => NodesSet w r (.slice aD (List.map (fun q : Int × ItM => q.2.b) T).length cD) (.slice aE (entsM T).length cE) T wx)
          case first =>
            go_wp2_with ((at_builtin; refine wpList_append_rows rfl _ _ 97 rfl w.heap.size 29 _ _ 6 48 Tryz.underlying97 HI6.out.1 HI6.out.2.1 HI6.out.2.2.1 HI6.out.2.2.2 rfl (by omega) _ 0 [] rfl (own_new (MapKept.heap_alloc w _).1 (Nat.le_refl _)) _ n _ (T.flatMap nodeC) rfl (HSR.out.below ((Below.refl _ _).alloc (Nat.le_refl _) _) (Nat.le_refl _)) (nodeC_one _) (by unfold maxLen; omega) (by omega) (by simp) ?_; intro A1 c1' w1 hown1 hb1; have hB1 := ((Below.refl w.heap.size w).alloc (Nat.le_refl _) _).trans hb1; have hf1 : w1.frozen? ⟨r, 0, none⟩ = false := (hB1.frozen (p := ⟨r, 0, none⟩) hrw).trans hf0; have hcc1 := (hB1.cell (p := ⟨r, 0, none⟩) hrw).trans p0))
            go_meet
            obtain ⟨-, hcc, -, hrow2⟩ := own_row (w := w) hown1 (by unfold maxLen; omega) (Nat.le_refl _)
            have hn := HNE.out
            rw [List.nil_append, Nat.zero_add, hn] at hrow2
            rw [Nat.zero_add, hn] at hcc
            have := NodesSet.mk_ hrw HP1.out hB1 hcc hrow2 (own_plain hown1)
            rw [← hn] at this
            exact this
          case rest =>
            obtain ⟨w1, rfl⟩ : ∃ w1 : World, w1 = wc := ⟨_, rfl⟩
            obtain ⟨g, off, c, q0, -, -, hlc, qf, hgr, hg1, hg2, hr1, gf, d0, d1, d2, d3, d4, d5⟩ := hcut.facts HQX.out
            rw [← HNE.out] at q0
            have gf2 := gf (off + k * 6 + 4)
            have HM := Lib.hid hcut
            have HC0 := Lib.hid q0
            clear hcut qf gf hlc
            go_wp2_with fail
            go_ret
            rw [HQ.out]
            have h0 := HC0.out
            rw [HNE.out] at h0
            have := NodesSet.set_ HM.out (by rw [← HNE.out] at h0 ⊢; exact h0) (k := k) (j := 4) (q' := (id, { x with til := til })) (v := .int .u64 til) HQX.out (by omega) rfl
            rw [← Nat.add_assoc] at this
            have h7 := RefP.nodes_turn HH.out HP1.out this (.int .i64 0)
            have h8 := amod_at (f := fun x : ItM => { x with til := til }) HS.out HQX.out
            simp only at h8
            rw [h8] at h7
            refine ⟨h7.1, h7.2.1, ?_⟩
            rw [data_amod (fun _ => by exact rfl), ents_amod (fun _ => by exact rfl)]
            exact h7.2.2
  · have HQ := Lib.hid (keepM_bad (T := T) (id := id) (til := til) (v := fileE T id) (by
      unfold keepE fileE at *
      cases hx : aget id T with
      | none => rfl
      | some x =>
        rw [hx] at h0
        by_cases hk : x.kind = 2
        · simp [hk]
        · exact absurd (by simp [hk]) h0) h0)
    generalize fileE T id = f at *
    have hne : (f == 0) = false := by simpa using h0
    have hne2 : (f != 0) = true := by simpa using h0
    clear h hT h0
    go_enter Tryz.func33, Tryz.ntmps33
    go_wp2_with fail
    (with_reducible refine HF.out.mono ?_)
    rintro e w1 ⟨rfl, rfl⟩
    go_wp2_with fail
    go_ret
    exact RTurn.no HH.out (Below.refl _ _) HQ.out
end
end Go.Proofs.YtbapdoicejakhaaGreat
namespace Go.Proofs.YtbapdoicejakhaaGreat
open Go.ChangeShapes Go.WideShapes Go.ChangeAt Go.RowKit
set_option linter.unusedVariables false
set_option linter.unusedSimpArgs false

section
variable {F : Nat → Prop} {r : Nat} {T : TrM}
set_option maxRecDepth 100000 in
set_option maxHeartbeats 8000000 in
theorem rseal_any (id til : Int) (w : World) (h : RefAt F w r T) (hT : OkM T) (ht0 : 0 ≤ til ∧ til ≤ 18446744073709551615) :
    Calls Tryz.prog 31 #[ptr r, .int .i64 id, .int .u64 til] w (RTurn F w r (sealM T id til).2 (.int .i64 (sealM T id til).1)) := by
  have HF := Lib.hid (rfile_any id w h hT.toOkP)
  have hr0 := h.low r h.own
  have HH := Lib.hid h
  by_cases h0 : fileE T id = 0
  · obtain ⟨x, hx, hk⟩ : ∃ x, aget id T = some x ∧ x.kind ≠ 2 := by
      unfold fileE at h0
      cases hx : aget id T with
      | none => rw [hx] at h0; cases h0
      | some x =>
        rw [hx] at h0
        exact ⟨x, rfl, fun hk => by simp [hk] at h0⟩
    obtain ⟨k, hi, hq⟩ := idx_some hT.sorted hx
    have hrf : rfI T id = k := by unfold rfI; rw [if_pos h0]; exact hi
    rw [hrf, h0] at HF
    obtain ⟨bN, oN, cN, hc0, hO, hbw, hkl, c0, c1, c2, c3, c4, c5⟩ := h.node hq
    simp only at c0 c1 c2 c3 c4 c5
    have i0 : (0 : Int) ≤ k := by omega
    have hlen := hT.len
    have HQX := Lib.hid hq
    have HS := Lib.hid hT.sorted
    obtain ⟨i6, a6, b6, s6, d6⟩ := info_parts nodeInfo
    have HI6 := Lib.hid (And.intro a6 (And.intro b6 (And.intro s6 d6)))
    obtain ⟨aN, cN', aD, cD, aE, cE, h1, h2, h3, h4, h8, h9, h10, h11⟩ := h.head
    obtain ⟨p0, p1, p2, pf⟩ := head_facts h1
    rw [p0] at hc0
    simp only [Option.some.injEq, Value.slice.injEq, true_and] at hc0
    obtain ⟨rfl, rfl⟩ := hc0
    have HP1 := Lib.hid h1
    have HSR := Lib.hid h8
    obtain ⟨n, hn⟩ : ∃ n, n = T.length := ⟨_, rfl⟩
    rw [← hn] at p0 hlen hkl h2 HSR
    have HNE := Lib.hid hn
    have hf0 := pf 0
    have hfp := hO.2
    have i1 : (k : Int) < n := by omega
    have hrw := hr0
    have HO1 := Lib.hid (hT.each id x hx)
    have HX := Lib.hid hx
    have hkx := hk
    clear a6 b6 s6 d6 h1 h8 h9 h10 h11 hi hrf h hq hn p1 p2 pf hO hT h0
    have he : sealE T id til = if x.closed then 27 else if 1099511627776 < til then 1 else 0 := by
      unfold sealE
      rw [hx]
      simp only [if_neg hk]
    clear hx hk
    cases hcl : x.closed with
    | true =>
      rw [hcl] at c5
      have HQ := Lib.hid (sealM_bad (he.trans (if_pos hcl)) (by omega))
      clear hcl he
      go_enter Tryz.func31, Tryz.ntmps31
      go_wp2_with fail
      (with_reducible refine HF.out.mono ?_)
      rintro e w1 ⟨rfl, rfl⟩
      go_wp2_with fail
      go_ret
      exact RTurn.no HH.out (Below.refl _ _) HQ.out
    | false =>
      rw [hcl] at c5
      rw [if_neg (by rw [hcl]; decide)] at he
      by_cases h6 : 1099511627776 < til
      · have HQ := Lib.hid (sealM_bad (he.trans (if_pos h6)) (by omega))
        have hd6 : decide ((1099511627776 : Int) < til) = true := by simpa using h6
        clear hcl he
        go_enter Tryz.func31, Tryz.ntmps31
        go_wp2_with fail
        (with_reducible refine HF.out.mono ?_)
        rintro e w1 ⟨rfl, rfl⟩
        go_wp2_with fail
        go_ret
        exact RTurn.no HH.out (Below.refl _ _) HQ.out
      · have hd6 : decide ((1099511627776 : Int) < til) = false := by simpa using h6
        have HQ : Hid (sealM T id til = (0, if x.links = 0 then adel id (amod id (fun x : ItM => { x with closed := true, til := til }) T) else (amod id (fun x : ItM => { x with closed := true, til := til }) T))) := by
          show sealM T id til = _
          unfold sealM settleM
          rw [he, if_neg h6]
          refine Prod.ext rfl ?_
          show (match aget id (amod id (fun x : ItM => { x with closed := true, til := til }) T) with | none => (amod id (fun x : ItM => { x with closed := true, til := til }) T) | some x => if x.links = 0 ∧ x.closed = true then adel id (amod id (fun x : ItM => { x with closed := true, til := til }) T) else (amod id (fun x : ItM => { x with closed := true, til := til }) T)) = _
          rw [aget_amod, if_pos rfl, HX.out]
          simp only [Option.map_some, and_true]
        clear hcl he
        by_cases h9 : x.links = 0
        · rw [if_pos h9] at HQ
          have e9 : (x.links == 0) = true := by simpa using h9
          clear h9
          go_enter Tryz.func31, Tryz.ntmps31
          go_wp2_with fail
          (with_reducible refine HF.out.mono ?_)
          rintro e w1 ⟨rfl, rfl⟩
          go_upto_region 8 with (fail)
          go_cut [] (fun wx => NodesSet w r (.slice aD (List.map (fun q : Int × ItM => q.2.b) T).length cD) (.slice aE (entsM T).length cE) T wx)
          case first =>
            go_wp2_with ((at_builtin; refine wpList_append_rows rfl _ _ 97 rfl w.heap.size 29 _ _ 6 48 Tryz.underlying97 HI6.out.1 HI6.out.2.1 HI6.out.2.2.1 HI6.out.2.2.2 rfl (by omega) _ 0 [] rfl (own_new (MapKept.heap_alloc w _).1 (Nat.le_refl _)) _ n _ (T.flatMap nodeC) rfl (HSR.out.below ((Below.refl _ _).alloc (Nat.le_refl _) _) (Nat.le_refl _)) (nodeC_one _) (by unfold maxLen; omega) (by omega) (by simp) ?_; intro A1 c1' w1 hown1 hb1; have hB1 := ((Below.refl w.heap.size w).alloc (Nat.le_refl _) _).trans hb1; have hf1 : w1.frozen? ⟨r, 0, none⟩ = false := (hB1.frozen (p := ⟨r, 0, none⟩) hrw).trans hf0; have hcc1 := (hB1.cell (p := ⟨r, 0, none⟩) hrw).trans p0))
            go_meet
            obtain ⟨-, hcc, -, hrow2⟩ := own_row (w := w) hown1 (by unfold maxLen; omega) (Nat.le_refl _)
            have hn := HNE.out
            rw [List.nil_append, Nat.zero_add, hn] at hrow2
            rw [Nat.zero_add, hn] at hcc
            have := NodesSet.mk_ hrw HP1.out hB1 hcc hrow2 (own_plain hown1)
            rw [← hn] at this
            exact this
          case rest =>
            obtain ⟨w1, rfl⟩ : ∃ w1 : World, w1 = wc := ⟨_, rfl⟩
            obtain ⟨g, off, c, q0, -, -, hlc, qf, hgr, hg1, hg2, hr1, gf, d0, d1, d2, d3, d4, d5⟩ := hcut.facts HQX.out
            rw [← HNE.out] at q0
            have gf2 := gf (off + k * 6 + 5)
            have HM := Lib.hid hcut
            have HC0 := Lib.hid q0
            clear hcut qf gf hlc
            go_upto_region 9 with (fail)
            go_cut [] (fun wx => NodesSet w r (.slice aD (List.map (fun q : Int × ItM => q.2.b) T).length cD) (.slice aE (entsM T).length cE) (T.set k (id, ({ x with closed := true } : ItM))) wx)
            case first =>
              go_wp2_with fail
              go_meet
              have h0 := HC0.out
              rw [HNE.out] at h0
              have := NodesSet.set_ HM.out (by rw [← HNE.out] at h0 ⊢; exact h0) (k := k) (j := 5) (q' := (id, { x with closed := true })) (v := .bool true) HQX.out (by omega) rfl
              rw [← Nat.add_assoc] at this
              exact this
            case rest =>
              clear q0 d0 d1 d2 d3 d4 d5 gf2 hgr hg1 hg2 hr1
              obtain ⟨w2, rfl⟩ : ∃ w2 : World, w2 = wc := ⟨_, rfl⟩
              have hset : (T.set k (id, ({ x with closed := true } : ItM)))[k]? = some (id, ({ x with closed := true } : ItM)) := by
                have hk1 : k < T.length := by have := HNE.out; omega
                rw [List.getElem?_set_self hk1]
              have HQ5 := Lib.hid hset
              have HN5 : Hid (n = (T.set k (id, ({ x with closed := true } : ItM))).length) := by
                show n = _
                rw [List.length_set]; exact HNE.out
              clear hset
              obtain ⟨g2, off2, c2z, q0, -, -, hlc, qf, hgr, hg1, hg2, hr1, gf, d0, d1, d2, d3, d4, d5⟩ := hcut.facts HQ5.out
              rw [← HN5.out] at q0
              have gf2 := gf (off2 + k * 6 + 4)
              have HM2 := Lib.hid hcut
              have HC2 := Lib.hid q0
              clear hcut qf gf hlc
              go_upto_region 10 with (fail)
              go_cut [] (fun wx => RTurn F w r (amod id (fun x : ItM => { x with closed := true, til := til }) T) (.tuple #[]) (.returned (.tuple #[])) wx)
              case first =>
                go_wp2_with fail
                go_meet
                have h0 := HC2.out
                rw [HN5.out] at h0
                have := NodesSet.set_ HM2.out (by rw [← HN5.out] at h0 ⊢; exact h0) (k := k) (j := 4) (q' := (id, { x with closed := true, til := til })) (v := .int .u64 til) HQ5.out (by omega) rfl
                rw [← Nat.add_assoc] at this
                rw [List.set_set] at this
                have h7 := RefP.nodes_turn HH.out HP1.out this (.tuple #[])
                have h8 := amod_at (f := fun x : ItM => { x with closed := true, til := til }) HS.out HQX.out
                simp only at h8
                rw [h8] at h7
                refine ⟨h7.1, h7.2.1, ?_⟩
                rw [data_amod (fun _ => by exact rfl), ents_amod (fun _ => by exact rfl)]
                exact h7.2.2
              case rest =>
                clear q0 d0 d1 d2 d3 d4 d5 gf2 hgr hg1 hg2 hr1
                obtain ⟨w3, rfl⟩ : ∃ w3 : World, w3 = wc := ⟨_, rfl⟩
                have HT3 := Lib.hid hcut
                have hR3 := hcut.2.2
                have hr3 : r < w3.heap.size := hR3.low r hR3.own
                have hset : (amod id (fun x : ItM => { x with closed := true, til := til }) T)[k]? = some (id, ({ x with closed := true, til := til } : ItM)) := by
                  have h8 := amod_at (f := fun x : ItM => { x with closed := true, til := til }) HS.out HQX.out
                  simp only at h8
                  have hk1 : k < T.length := by have := HNE.out; omega
                  rw [← h8, List.getElem?_set_self hk1]
                obtain ⟨bG, oG, cG, e0, hOG, hbG, hkG, -, -, e2, -, -, -⟩ := hR3.node hset
                simp only at e2
                rw [amod_length, ← HNE.out] at e0
                have HGET : Hid (aget id (amod id (fun x : ItM => { x with closed := true, til := til }) T) = some ({ x with closed := true, til := til } : ItM)) := by
                  show aget id (amod id (fun x : ItM => { x with closed := true, til := til }) T) = _
                  rw [aget_amod, if_pos rfl, HX.out]
                  rfl
                have HSL : Hid (ASorted ilt (amod id (fun x : ItM => { x with closed := true, til := til }) T) ∧ (amod id (fun x : ItM => { x with closed := true, til := til }) T).length ≤ 64) := by
                  refine ⟨amod_sorted _ _ HS.out, ?_⟩
                  rw [amod_length, ← HNE.out]
                  exact hlen
                have HGO := Lib.hid (rgone_tr id _ w3 hR3 HSL.out.1 HSL.out.2 HGET.out (HO1.out.file (HO1.out.kind.resolve_right hkx)))
                clear hcut hR3 hset hOG hkG
                go_wp2_with fail
                (with_reducible refine HGO.out.mono ?_)
                rintro e w4 ht4
                have HT4 := Lib.hid ht4
                obtain rfl := ht4.1
                clear ht4
                go_wp2_with fail
                go_ret
                rw [HQ.out]
                exact (HT3.out.trans HH.out.low HT4.out).val _
        · rw [if_neg h9] at HQ
          have e9 : (x.links == 0) = false := by simpa using h9
          clear h9
          go_enter Tryz.func31, Tryz.ntmps31
          go_wp2_with fail
          (with_reducible refine HF.out.mono ?_)
          rintro e w1 ⟨rfl, rfl⟩
          go_upto_region 8 with (fail)
          go_cut [] (fun wx => NodesSet w r (.slice aD (List.map (fun q : Int × ItM => q.2.b) T).length cD) (.slice aE (entsM T).length cE) T wx)
          case first =>
            go_wp2_with ((at_builtin; refine wpList_append_rows rfl _ _ 97 rfl w.heap.size 29 _ _ 6 48 Tryz.underlying97 HI6.out.1 HI6.out.2.1 HI6.out.2.2.1 HI6.out.2.2.2 rfl (by omega) _ 0 [] rfl (own_new (MapKept.heap_alloc w _).1 (Nat.le_refl _)) _ n _ (T.flatMap nodeC) rfl (HSR.out.below ((Below.refl _ _).alloc (Nat.le_refl _) _) (Nat.le_refl _)) (nodeC_one _) (by unfold maxLen; omega) (by omega) (by simp) ?_; intro A1 c1' w1 hown1 hb1; have hB1 := ((Below.refl w.heap.size w).alloc (Nat.le_refl _) _).trans hb1; have hf1 : w1.frozen? ⟨r, 0, none⟩ = false := (hB1.frozen (p := ⟨r, 0, none⟩) hrw).trans hf0; have hcc1 := (hB1.cell (p := ⟨r, 0, none⟩) hrw).trans p0))
            go_meet
            obtain ⟨-, hcc, -, hrow2⟩ := own_row (w := w) hown1 (by unfold maxLen; omega) (Nat.le_refl _)
            have hn := HNE.out
            rw [List.nil_append, Nat.zero_add, hn] at hrow2
            rw [Nat.zero_add, hn] at hcc
            have := NodesSet.mk_ hrw HP1.out hB1 hcc hrow2 (own_plain hown1)
            rw [← hn] at this
            exact this
          case rest =>
            obtain ⟨w1, rfl⟩ : ∃ w1 : World, w1 = wc := ⟨_, rfl⟩
            obtain ⟨g, off, c, q0, -, -, hlc, qf, hgr, hg1, hg2, hr1, gf, d0, d1, d2, d3, d4, d5⟩ := hcut.facts HQX.out
            rw [← HNE.out] at q0
            have gf2 := gf (off + k * 6 + 5)
            have HM := Lib.hid hcut
            have HC0 := Lib.hid q0
            clear hcut qf gf hlc
            go_upto_region 9 with (fail)
            go_cut [] (fun wx => NodesSet w r (.slice aD (List.map (fun q : Int × ItM => q.2.b) T).length cD) (.slice aE (entsM T).length cE) (T.set k (id, ({ x with closed := true } : ItM))) wx)
            case first =>
              go_wp2_with fail
              go_meet
              have h0 := HC0.out
              rw [HNE.out] at h0
              have := NodesSet.set_ HM.out (by rw [← HNE.out] at h0 ⊢; exact h0) (k := k) (j := 5) (q' := (id, { x with closed := true })) (v := .bool true) HQX.out (by omega) rfl
              rw [← Nat.add_assoc] at this
              exact this
            case rest =>
              clear q0 d0 d1 d2 d3 d4 d5 gf2 hgr hg1 hg2 hr1
              obtain ⟨w2, rfl⟩ : ∃ w2 : World, w2 = wc := ⟨_, rfl⟩
              have hset : (T.set k (id, ({ x with closed := true } : ItM)))[k]? = some (id, ({ x with closed := true } : ItM)) := by
                have hk1 : k < T.length := by have := HNE.out; omega
                rw [List.getElem?_set_self hk1]
              have HQ5 := Lib.hid hset
              have HN5 : Hid (n = (T.set k (id, ({ x with closed := true } : ItM))).length) := by
                show n = _
                rw [List.length_set]; exact HNE.out
              clear hset
              obtain ⟨g2, off2, c2z, q0, -, -, hlc, qf, hgr, hg1, hg2, hr1, gf, d0, d1, d2, d3, d4, d5⟩ := hcut.facts HQ5.out
              rw [← HN5.out] at q0
              have gf2 := gf (off2 + k * 6 + 4)
              have HM2 := Lib.hid hcut
              have HC2 := Lib.hid q0
              clear hcut qf gf hlc
              go_upto_region 10 with (fail)
              go_cut [] (fun wx => RTurn F w r (amod id (fun x : ItM => { x with closed := true, til := til }) T) (.tuple #[]) (.returned (.tuple #[])) wx)
              case first =>
                go_wp2_with fail
                go_meet
                have h0 := HC2.out
                rw [HN5.out] at h0
                have := NodesSet.set_ HM2.out (by rw [← HN5.out] at h0 ⊢; exact h0) (k := k) (j := 4) (q' := (id, { x with closed := true, til := til })) (v := .int .u64 til) HQ5.out (by omega) rfl
                rw [← Nat.add_assoc] at this
                rw [List.set_set] at this
                have h7 := RefP.nodes_turn HH.out HP1.out this (.tuple #[])
                have h8 := amod_at (f := fun x : ItM => { x with closed := true, til := til }) HS.out HQX.out
                simp only at h8
                rw [h8] at h7
                refine ⟨h7.1, h7.2.1, ?_⟩
                rw [data_amod (fun _ => by exact rfl), ents_amod (fun _ => by exact rfl)]
                exact h7.2.2
              case rest =>
                clear q0 d0 d1 d2 d3 d4 d5 gf2 hgr hg1 hg2 hr1
                obtain ⟨w3, rfl⟩ : ∃ w3 : World, w3 = wc := ⟨_, rfl⟩
                have HT3 := Lib.hid hcut
                have hR3 := hcut.2.2
                have hr3 : r < w3.heap.size := hR3.low r hR3.own
                have hset : (amod id (fun x : ItM => { x with closed := true, til := til }) T)[k]? = some (id, ({ x with closed := true, til := til } : ItM)) := by
                  have h8 := amod_at (f := fun x : ItM => { x with closed := true, til := til }) HS.out HQX.out
                  simp only at h8
                  have hk1 : k < T.length := by have := HNE.out; omega
                  rw [← h8, List.getElem?_set_self hk1]
                obtain ⟨bG, oG, cG, e0, hOG, hbG, hkG, -, -, e2, -, -, -⟩ := hR3.node hset
                simp only at e2
                rw [amod_length, ← HNE.out] at e0
                have HGET : Hid (aget id (amod id (fun x : ItM => { x with closed := true, til := til }) T) = some ({ x with closed := true, til := til } : ItM)) := by
                  show aget id (amod id (fun x : ItM => { x with closed := true, til := til }) T) = _
                  rw [aget_amod, if_pos rfl, HX.out]
                  rfl
                have HSL : Hid (ASorted ilt (amod id (fun x : ItM => { x with closed := true, til := til }) T) ∧ (amod id (fun x : ItM => { x with closed := true, til := til }) T).length ≤ 64) := by
                  refine ⟨amod_sorted _ _ HS.out, ?_⟩
                  rw [amod_length, ← HNE.out]
                  exact hlen
                have HGO := Lib.hid (rgone_tr id _ w3 hR3 HSL.out.1 HSL.out.2 HGET.out (HO1.out.file (HO1.out.kind.resolve_right hkx)))
                clear hcut hR3 hset hOG hkG
                go_wp2_with fail
                go_ret
                rw [HQ.out]
                exact HT3.out.val _
  · have HQ := Lib.hid (sealM_bad (T := T) (id := id) (til := til) (v := fileE T id) (by
      unfold sealE fileE at *
      cases hx : aget id T with
      | none => rfl
      | some x =>
        rw [hx] at h0
        by_cases hk : x.kind = 2
        · simp [hk]
        · exact absurd (by simp [hk]) h0) h0)
    generalize fileE T id = f at *
    have hne : (f == 0) = false := by simpa using h0
    have hne2 : (f != 0) = true := by simpa using h0
    clear h hT h0
    go_enter Tryz.func31, Tryz.ntmps31
    go_wp2_with fail
    (with_reducible refine HF.out.mono ?_)
    rintro e w1 ⟨rfl, rfl⟩
    go_wp2_with fail
    go_ret
    exact RTurn.no HH.out (Below.refl _ _) HQ.out
end
end Go.Proofs.YtbapdoicejakhaaGreat
namespace Go.Proofs.YtbapdoicejakhaaGreat
open Go.ChangeShapes Go.WideShapes Go.ChangeAt Go.RowKit
set_option linter.unusedVariables false
set_option linter.unusedSimpArgs false

theorem dropM_bad {T : TrM} {id v : Int} (h : dropE T id = v) (hv : v ≠ 0) : dropM T id = (v, T) := by
  unfold dropM
  rw [h, if_neg hv]
/-- The entries while those of a node are cut, from the last. -/
def dropL (E : List Ent) (id : Int) (m : Nat) : List Ent := E.take m ++ (E.drop m).filter fun e => !decide (e.2.2 = id)
theorem dropL_get {E : List Ent} {id : Int} {m : Nat} {e : Ent} (hx : E[m]? = some e) : (dropL E id (m + 1))[m]? = some e := by
  obtain ⟨hm, h⟩ := List.getElem?_eq_some_iff.1 hx
  unfold dropL
  rw [List.getElem?_append_left (by rw [List.length_take]; omega), List.getElem?_take, if_pos (by omega)]
  exact hx
theorem dropL_len {E : List Ent} {id : Int} {m : Nat} (hm : m ≤ E.length) : m ≤ (dropL E id m).length ∧ (dropL E id m).length ≤ E.length := by
  unfold dropL
  have := List.length_filter_le (fun e : Ent => !decide (e.2.2 = id)) (E.drop m)
  rw [List.length_drop] at this
  rw [List.length_append, List.length_take]
  omega
theorem dropL_yes {E : List Ent} {id : Int} {m : Nat} {e : Ent} (hx : E[m]? = some e) (he : e.2.2 = id) : (dropL E id (m + 1)).take m ++ (dropL E id (m + 1)).drop (m + 1) = dropL E id m := by
  obtain ⟨hm, h⟩ := List.getElem?_eq_some_iff.1 hx
  unfold dropL
  have hl : (E.take (m + 1)).length = m + 1 := by rw [List.length_take]; omega
  rw [List.take_append_of_le_length (by omega), List.take_take, Nat.min_eq_left (by omega), List.drop_append_of_le_length (by omega), List.drop_of_length_le (by omega), List.nil_append]
  congr 1
  rw [List.drop_eq_getElem_cons hm, h, List.filter_cons]
  simp [he]
theorem dropL_no {E : List Ent} {id : Int} {m : Nat} {e : Ent} (hx : E[m]? = some e) (he : e.2.2 ≠ id) : dropL E id (m + 1) = dropL E id m := by
  obtain ⟨hm, h⟩ := List.getElem?_eq_some_iff.1 hx
  unfold dropL
  rw [List.take_succ_eq_append_getElem hm, h, List.drop_eq_getElem_cons hm, h, List.filter_cons]
  simp [he]
section
variable {F : Nat → Prop} {r : Nat} {T : TrM}
set_option maxRecDepth 100000 in
set_option maxHeartbeats 8000000 in
theorem rdrop_any (id : Int) (w : World) (h : RefAt F w r T) (hT : OkM T) :
    Calls Tryz.prog 37 #[ptr r, .int .i64 id] w (RTurn F w r (dropM T id).2 (.int .i64 (dropM T id).1)) := by
  have HF := Lib.hid (rfile_any id w h hT.toOkP)
  have hr0 := h.low r h.own
  have HH := Lib.hid h
  by_cases h0 : fileE T id = 0
  · obtain ⟨x, hx, hk⟩ : ∃ x, aget id T = some x ∧ x.kind ≠ 2 := by
      unfold fileE at h0
      cases hx : aget id T with
      | none => rw [hx] at h0; cases h0
      | some x =>
        rw [hx] at h0
        exact ⟨x, rfl, fun hk => by simp [hk] at h0⟩
    obtain ⟨k, hi, hq⟩ := idx_some hT.sorted hx
    have hrf : rfI T id = k := by unfold rfI; rw [if_pos h0]; exact hi
    rw [hrf, h0] at HF
    obtain ⟨bN, oN, cN, hc0, hO, hbw, hkl, c0, c1, c2, c3, c4, c5⟩ := h.node hq
    simp only at c0 c1 c2 c3 c4 c5
    have i0 : (0 : Int) ≤ k := by omega
    have hlen := hT.len
    have HQX := Lib.hid hq
    have HS := Lib.hid hT.sorted
    have hr1 := hr0
    have HO1 := Lib.hid (hT.each id x hx)
    have HX := Lib.hid hx
    have hkx := hk
    have hfew := ents_few hT
    have HTT := Lib.hid hT
    have HLN := Lib.hid (rfl : T.length = T.length)
    obtain ⟨aE, cE, p2, -, -, -⟩ := h.ent
    obtain ⟨n, hn⟩ : ∃ n, n = (entsM T).length := ⟨_, rfl⟩
    rw [← hn] at p2 hfew
    have HNE := Lib.hid hn
    obtain ⟨tl, htl⟩ : ∃ tl, tl = T.length := ⟨_, rfl⟩
    rw [← htl] at hc0 hkl hlen
    have i1 : (k : Int) < tl := by omega
    have he : dropE T id = if x.closed then 27 else 0 := by
      unfold dropE
      rw [hx]
      simp only [if_neg hk]
    clear hx hk h hT h0 hn htl hi hq hrf hO
    cases hcl : x.closed with
    | true =>
      rw [hcl] at c5
      have HQ := Lib.hid (dropM_bad (he.trans (if_pos hcl)) (by omega))
      clear hcl he
      go_enter Tryz.func37, Tryz.ntmps37
      go_wp2_with fail
      (with_reducible refine HF.out.mono ?_)
      rintro e w1 ⟨rfl, rfl⟩
      go_wp2_with fail
      go_ret
      exact RTurn.no HH.out (Below.refl _ _) HQ.out
    | false =>
      rw [hcl] at c5
      have HQ : Hid (dropM T id = (0, adel id (stripM T id))) := by
        show dropM T id = _
        unfold dropM
        rw [he, if_neg (by rw [hcl]; decide)]
        rfl
      clear hcl he
      have e1 : IntKind.i64.wrap ((n : Int) - 1) = (n : Int) - 1 := IntWalk.i64_in _ (by omega)
      go_enter Tryz.func37, Tryz.ntmps37
      go_wp2_with fail
      (with_reducible refine HF.out.mono ?_)
      rintro e w1 ⟨rfl, rfl⟩
      go_wp2_with fail
      go_loopw [7] (fun i wr => ∃ m : Nat, m ≤ n ∧ i = .int .i64 ((m : Int) - 1) ∧ RTurnP F w r T (T.map fun q => q.2.b) (dropL (entsM T) id m) (.tuple #[]) (.returned (.tuple #[])) wr) (fun i _ => (intOf i + 1).toNat)
      case atStart =>
        refine ⟨n, Nat.le_refl _, rfl, ?_⟩
        have e2 : dropL (entsM T) id n = entsM T := by
          unfold dropL
          have := HNE.out
          rw [List.take_of_length_le (by omega), List.drop_of_length_le (by omega)]
          simp
        rw [e2]
        exact RTurnP.same HH.out (Below.refl _ _)
      case round =>
        obtain ⟨m, hm, rfl, hTr⟩ := hrel
        have HTr := Lib.hid hTr
        clear hTr
        cases m with
        | zero =>
          have HR : Hid (RTurn F w r (stripM T id) (.tuple #[]) (.returned (.tuple #[])) wr) := by
            refine ⟨rfl, HTr.out.2.1, ?_⟩
            have h1 := HTr.out.2.2.names (T' := stripM T id) (by unfold stripM; rw [List.length_map]) (nodes_strip id T)
            rw [show dropL (entsM T) id 0 = (entsM T).filter fun e => !decide (e.2.2 = id) by unfold dropL; simp, ← ents_strip, ← data_strip id T] at h1
            exact h1
          have hP := HTT.out.toOkP.strip id
          have HGO := Lib.hid (rgone_tr id (stripI id x) wr HR.out.2.2 hP.sorted hP.len (by rw [stripM_get, HX.out]; rfl) (by
            unfold stripI
            simp only
            rw [HO1.out.file (HO1.out.kind.resolve_right hkx)]
            rfl))
          clear hP
          rw [show ((0 : Nat) : Int) - 1 = -1 by rfl]
          go_wp2_with fail
          (with_reducible refine HGO.out.mono ?_)
          rintro e w4 ht4
          have HT4 := Lib.hid ht4
          obtain rfl := ht4.1
          clear ht4
          go_wp2_with fail
          go_ret
          rw [HQ.out]
          exact (HR.out.trans HH.out.low HT4.out).val _
        | succ j =>
          have hjn : j < (entsM T).length := by have := HNE.out; omega
          have hx : (entsM T)[j]? = some ((entsM T)[j]'hjn) := List.getElem?_eq_getElem _
          obtain ⟨q, hqe⟩ : ∃ q, q = (entsM T)[j]'hjn := ⟨_, rfl⟩
          rw [← hqe] at hx
          have HX2 := Lib.hid hx
          have hR := HTr.out.2.2
          have hrr : r < wr.heap.size := hR.low r hR.own
          obtain ⟨aR, cR, s2, -, hrow, -⟩ := hR.ent
          have hdl := dropL_len (E := entsM T) (id := id) (m := j + 1) (by omega)
          have HCUT := Lib.hid (rcut_at j wr hR (by omega) (by have := HNE.out; omega))
          rw [show ((j + 1 : Nat) : Int) - 1 = (j : Int) by omega]
          obtain ⟨b, off, rfl, hF, hb, hi, hc⟩ := hrow.wide entC_len rfl (dropL_get hx) (by omega)
          have d2 : wr.cell? ⟨b, off + j * 3 + 2, none⟩ = some (.int .i64 q.2.2) := hc 2 (by omega)
          obtain ⟨dl, hdle⟩ : ∃ dl, dl = (dropL (entsM T) id (j + 1)).length := ⟨_, rfl⟩
          rw [← hdle] at s2 hdl hi
          have j0 : (0 : Int) ≤ j := by omega
          have j1 : (j : Int) < dl := by omega
          have e2 : IntKind.i64.wrap ((j : Int) - 1) = (j : Int) - 1 := IntWalk.i64_in _ (by omega)
          clear hx hqe hR hrow hc hdle
          by_cases hp : q.2.2 = id
          · have hpp : (q.2.2 == id) = true := by simpa using hp
            have HP := Lib.hid (dropL_yes HX2.out hp)
            clear hp
            go_wp2_with fail
            (with_reducible refine HCUT.out.mono ?_)
            rintro e w4 ht4
            have HT4 := Lib.hid ht4
            obtain rfl := ht4.1
            clear ht4
            go_wp2_with fail
            go_roundw
            case rel => exact ⟨j, by omega, rfl, by rw [← HP.out]; exact HTr.out.trans HH.out.low HT4.out⟩
            case measure => simp [intOf]
          · have hpp : (q.2.2 == id) = false := by simpa using hp
            have HP := Lib.hid (dropL_no HX2.out hp)
            clear hp
            go_wp2_with fail
            go_roundw
            case rel => exact ⟨j, by omega, rfl, by rw [← HP.out]; exact HTr.out⟩
            case measure => simp [intOf]
  · have HQ := Lib.hid (dropM_bad (T := T) (id := id) (v := fileE T id) (by
      unfold dropE fileE at *
      cases hx : aget id T with
      | none => rfl
      | some x =>
        rw [hx] at h0
        by_cases hk : x.kind = 2
        · simp [hk]
        · exact absurd (by simp [hk]) h0) h0)
    generalize fileE T id = f at *
    have hne : (f == 0) = false := by simpa using h0
    have hne2 : (f != 0) = true := by simpa using h0
    clear h hT h0
    go_enter Tryz.func37, Tryz.ntmps37
    go_wp2_with fail
    (with_reducible refine HF.out.mono ?_)
    rintro e w1 ⟨rfl, rfl⟩
    go_wp2_with fail
    go_ret
    exact RTurn.no HH.out (Below.refl _ _) HQ.out
end
end Go.Proofs.YtbapdoicejakhaaGreat
