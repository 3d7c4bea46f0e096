/- The reference: Unlink, Rmdir. The reference: Rmdir. The reference: Read. -/
import Derived.Test.YtbapdoicejakhaaGreatM34
namespace Go.Proofs.YtbapdoicejakhaaGreat
open Go.ChangeShapes Go.WideShapes Go.ChangeAt Go.RowKit
set_option linter.unusedVariables false
set_option linter.unusedSimpArgs false

theorem Keeps.cell_ {r b : Nat} {w w' : World} (h : Keeps (fun x => x = r) w w') (hb : b < w.heap.size) (hn : b ≠ r) (j : Nat) : w'.cell? ⟨b, j, none⟩ = w.cell? ⟨b, j, none⟩ := World.cell?_of_block (w := w) (w' := w') (a := ⟨b, j, none⟩) (h.block b hb hn)
theorem lookE_zero {T : TrM} {p : List Nm} (h : (lookE T p).2 = 0) : lookE T p = lookM T 0 p := by
  unfold lookE at h ⊢
  by_cases h1 : fineL p ≠ 0
  · rw [if_pos h1] at h; exact absurd h h1
  · rw [if_neg h1]
section
variable {F : Nat → Prop} {r : Nat} {T : TrM}
set_option maxRecDepth 100000 in
set_option maxHeartbeats 8000000 in
theorem runlink_any {S : Nat → Prop} (a : Option Addr) (n c : Nat) (ls : List Nm) (w : World) (h : RefAt F w r T) (hT : OkM T) (hS : StrsAt S w a n (ls.map strOf)) (hc : n ≤ c) (hn8 : n ≤ 1000000) :
    Calls Tryz.prog 27 #[ptr r, .slice a n c] w (RTurn F w r (unlinkM T ls).2 (.int .i64 (unlinkM T ls).1)) := by
  have hE : (entsM T).length ≤ 1000000 := by have := ents_few hT; omega
  have H1 := Lib.hid (rLook_any a n c ls w h hT hE hS)
  have H3 := Lib.hid (fun w1 (hb : Below w.heap.size w w1) => rplace_any a n c ls w1 (h.below hb (Nat.le_refl _)) hT hE (hS.below hb (Nat.le_refl _)) hc hn8)
  have H4 := Lib.hid (fun w1 (hb : Below w.heap.size w w1) id => rnode_any id w1 (h.below hb (Nat.le_refl _)) hT.toOkP)
  have H5 := Lib.hid (fun w1 (hb : Below w.heap.size w w1) d nm => rentry_any d nm w1 (h.below hb (Nat.le_refl _)) hE)
  have HH := Lib.hid h
  have HT := Lib.hid hT
  have hr0 := h.low r h.own
  by_cases h1 : (lookE T ls).2 = 0
  · have hlk0 := lookE_zero h1
    rw [hlk0] at h1 H1
    have hl2 : lookM T 0 ls = ((lookM T 0 ls).1, 0) := Prod.ext rfl h1
    obtain ⟨y, hy⟩ := Option.isSome_iff_exists.1 (lookM_there hT ls 0 (root_there hT) h1)
    have hue : unlinkE T ls = if y.kind = 2 then 22 else 0 := by
      unfold unlinkE
      rw [hlk0, if_neg (by rw [h1]; simp), kindM_of hy]
    obtain ⟨id, hid⟩ : ∃ id, id = (lookM T 0 ls).1 := ⟨_, rfl⟩
    rw [← hid] at hl2 hy
    rw [hl2] at H1
    simp only at H1
    have H4y := Lib.hid (fun w1 hb => H4.out w1 hb id)
    have hnd : nodeM T id = nodeV id y := by unfold nodeM; rw [hy]
    rw [hnd] at H4y
    unfold nodeV at H4y
    have hlk := (hT.each id y hy).links
    by_cases h2 : y.kind = 2
    · have hk1 : (y.kind == 2) = true := by simpa using h2
      have HQ : Hid (unlinkM T ls = (22, T)) := by
        show unlinkM T ls = (22, T)
        unfold unlinkM
        rw [hue, if_pos h2]
        rfl
      clear h hT hS hE H4 hlk0 h1 hl2 hue hid hnd hy h2
      go_enter Tryz.func27, Tryz.ntmps27
      go_wp2_with fail
      (with_reducible refine H1.out.mono ?_)
      rintro e w1 ⟨rfl, hb1⟩
      have HB1 := Lib.hid hb1
      clear hb1
      go_wp2_with fail
      (with_reducible refine (H4y.out w1 HB1.out).mono ?_)
      rintro e w3 ⟨rfl, hb3⟩
      have HB3 := Lib.hid (HB1.out.trans (hb3.mono HB1.out.size))
      have hz3 := HB3.out.size
      clear hb3
      go_wp2_with fail
      go_ret
      exact RTurn.no HH.out (HB3.out.trans ((wall w3 _).mono HB3.out.size)) HQ.out
    · have hk1 : (y.kind == 2) = false := by simpa using h2
      have hls : ls ≠ [] := fun e => by
        rw [e] at hl2
        simp only [lookM, Prod.mk.injEq, and_true] at hl2
        obtain ⟨z, hz, hzk⟩ := kindM_some hT.root
        rw [← hl2, hz] at hy
        cases hy
        exact h2 hzk
      obtain ⟨d, x, n1, hp1, hp2, hx, hxk, hxn, hm, -⟩ := place_of_look hl2 hls
      rw [hp1] at H3
      simp only at H3
      have hidd : id ≠ d := fun e => by rw [e, hx] at hy; cases hy; exact h2 hxk
      have HL1 := Lib.hid ((Lax.of hT).cut d n1)
      obtain ⟨k, hk, -⟩ := lax_ent (Lax.of hT) hx hxn
      have H5e := Lib.hid (fun w1 hb => H5.out w1 hb d n1)
      rw [hk] at H5e
      have HCT : Hid (∀ w4, Below w.heap.size w w4 → Calls Tryz.prog 68 #[ptr r, .int .i64 k] w4 (RTurn F w4 r (cutName T d n1) (.tuple #[]))) := fun w4 hb => by
        obtain ⟨k', hk', hc'⟩ := rcut_tr d n1 id x w4 (h.below hb (Nat.le_refl _)) (Lax.of hT) hx hxn
        rw [hk] at hk'
        have : k = k' := by omega
        rw [this]
        exact hc'
      have HY1 : Hid (aget id (cutName T d n1) = some y) := by
        show aget id (cutName T d n1) = some y
        unfold cutName
        rw [aget_amod, if_neg hidd]
        exact hy
      have HY2 : Hid (aget id (amod id (fun x : ItM => { x with links := x.links + -1 }) (cutName T d n1)) = some { y with links := y.links + -1 }) := by
        show aget id (amod id (fun x : ItM => { x with links := x.links + -1 }) (cutName T d n1)) = some { y with links := y.links + -1 }
        rw [aget_amod, if_pos rfl, HY1.out]
        rfl
      have HL2 : Hid (Lax (amod id (fun x : ItM => { x with links := x.links + -1 }) (cutName T d n1))) := HL1.out.amod id (fun _ => by exact rfl)
      have hnil : y.names = [] := (hT.each id y hy).file ((hT.each id y hy).kind.resolve_right h2)
      have HQ : Hid (unlinkM T ls = (0, if y.links = 1 ∧ y.closed = true then adel id (amod id (fun x : ItM => { x with links := x.links + -1 }) (cutName T d n1)) else amod id (fun x : ItM => { x with links := x.links + -1 }) (cutName T d n1))) := by
        show unlinkM T ls = _
        unfold unlinkM
        rw [hue, if_neg h2]
        refine Prod.ext rfl ?_
        show unlinkOk T ls = _
        unfold unlinkOk settleM
        rw [hp1, ← hid]
        have e0 : (fun x : ItM => { x with links := x.links - 1 }) = fun x : ItM => { x with links := x.links + -1 } := rfl
        simp only [e0]
        rw [HY2.out]
        simp only
        by_cases hq : y.links = 1 ∧ y.closed = true
        · rw [if_pos hq, if_pos ⟨by omega, hq.2⟩]
        · rw [if_neg hq, if_neg (fun h => hq ⟨by omega, h.2⟩)]
      clear h hT hS hE H4 H5 hlk0 h1 hl2 hue hid hnd hy h2 hls hp1 hp2 hx hxk hxn hm hk hidd
      by_cases h3 : y.links = 1
      · have e1 : (y.links == 1) = true := by simpa using h3
        cases h4 : y.closed with
        | true =>
          rw [if_pos ⟨h3, h4⟩] at HQ
          rw [h4] at H4y
          have hcl := Lib.hid h4
          clear h3 h4
          go_enter Tryz.func27, Tryz.ntmps27
          go_wp2_with fail
          (with_reducible refine H1.out.mono ?_)
          rintro e w1 ⟨rfl, hb1⟩
          have HB1 := Lib.hid hb1
          clear hb1
          go_wp2_with fail
          (with_reducible refine (H4y.out w1 HB1.out).mono ?_)
          rintro e w3 ⟨rfl, hb3⟩
          have HB3 := Lib.hid (HB1.out.trans (hb3.mono HB1.out.size))
          have hz3 := HB3.out.size
          clear hb3
          go_wp2_with fail
          (with_reducible refine (H3.out _ (HB3.out.trans ((wall w3 _).mono HB3.out.size))).mono ?_)
          rintro e w4 ⟨rfl, hb4⟩
          have HB4 := Lib.hid ((HB3.out.trans ((wall w3 _).mono HB3.out.size)).trans (hb4.mono (by simp; omega)))
          have q4 : w4.cell? ⟨w3.heap.size, 2, none⟩ = some (.int .i64 y.links) := by rw [hb4.cell (p := ⟨w3.heap.size, 2, none⟩) (by simp)]; exact cell_new w3 _ _ 2
          have q5 : w4.cell? ⟨w3.heap.size, 5, none⟩ = some (.bool true) := by rw [hb4.cell (p := ⟨w3.heap.size, 5, none⟩) (by simp)]; exact (cell_new w3 _ _ 5)
          have hz4 : w3.heap.size < w4.heap.size := by have := hb4.size; simp at this; omega
          obtain ⟨qb, hqb⟩ : ∃ qb, qb = w3.heap.size := ⟨_, rfl⟩
          have hqr : qb ≠ r := by omega
          rw [← hqb] at q4 q5 hz4 ⊢
          have HZ := Lib.hid hqb
          clear hb4 hqb hz3
          go_wp2_with fail
          (with_reducible refine (H5e.out w4 HB4.out).mono ?_)
          rintro e w5 ⟨rfl, rfl⟩
          go_wp2_with fail
          (with_reducible refine (HCT.out w4 HB4.out).mono ?_)
          rintro e w5 ht5
          obtain ⟨rfl, hK5, hR5⟩ := ht5
          have q4' : w5.cell? ⟨qb, 2, none⟩ = some (.int .i64 y.links) := (hK5.cell_ hz4 hqr 2).trans q4
          have q5' : w5.cell? ⟨qb, 5, none⟩ = some (.bool true) := (hK5.cell_ hz4 hqr 5).trans q5
          have hz5 : qb < w5.heap.size := by have := hK5.size; omega
          have HLI := Lib.hid (rlinks_tr id (-1) y w5 hR5 HL1.out HY1.out (by omega) hlk)
          have HT5 : Hid (RTurn F w4 r (cutName T d n1) (.tuple #[]) (.returned (.tuple #[])) w5) := ⟨rfl, hK5, hR5⟩
          clear hK5 hR5 q4 q5
          go_wp2_with fail
          (with_reducible refine HLI.out.mono ?_)
          rintro e w6 ht6
          obtain ⟨rfl, hK6, hR6⟩ := ht6
          have q4 : w6.cell? ⟨qb, 2, none⟩ = some (.int .i64 y.links) := (hK6.cell_ hz5 hqr 2).trans q4'
          have q5 : w6.cell? ⟨qb, 5, none⟩ = some (.bool true) := (hK6.cell_ hz5 hqr 5).trans q5'
          have hz6 : qb < w6.heap.size := by have := hK6.size; omega
          have HGO := Lib.hid (rgone_tr id _ w6 hR6 HL2.out.sorted HL2.out.len HY2.out hnil)
          have HT6 : Hid (RTurn (Grow F w4 w5) w5 r (amod id (fun x => { x with links := x.links + -1 }) (cutName T d n1)) (.tuple #[]) (.returned (.tuple #[])) w6) := ⟨rfl, hK6, hR6⟩
          clear hK6 hR6 q4' q5'
          go_wp2_with fail
          (with_reducible refine HGO.out.mono ?_)
          rintro e w7 ht7
          have HT7 := Lib.hid ht7
          obtain rfl := ht7.1
          clear ht7
          go_wp2_with fail
          go_ret
          rw [HQ.out]
          have ht56 := HT5.out.trans (HH.out.below HB4.out (Nat.le_refl _)).low HT6.out
          exact (RTurnP.behind HH.out.low HB4.out (HT5.out.trans (HH.out.below HB4.out (Nat.le_refl _)).low (HT6.out.trans HT5.out.2.2.low HT7.out))).val _
        | false =>
          rw [if_neg (by rw [h4]; simp)] at HQ
          rw [h4] at H4y
          clear h3 h4
          go_enter Tryz.func27, Tryz.ntmps27
          go_wp2_with fail
          (with_reducible refine H1.out.mono ?_)
          rintro e w1 ⟨rfl, hb1⟩
          have HB1 := Lib.hid hb1
          clear hb1
          go_wp2_with fail
          (with_reducible refine (H4y.out w1 HB1.out).mono ?_)
          rintro e w3 ⟨rfl, hb3⟩
          have HB3 := Lib.hid (HB1.out.trans (hb3.mono HB1.out.size))
          have hz3 := HB3.out.size
          clear hb3
          go_wp2_with fail
          (with_reducible refine (H3.out _ (HB3.out.trans ((wall w3 _).mono HB3.out.size))).mono ?_)
          rintro e w4 ⟨rfl, hb4⟩
          have HB4 := Lib.hid ((HB3.out.trans ((wall w3 _).mono HB3.out.size)).trans (hb4.mono (by simp; omega)))
          have q4 : w4.cell? ⟨w3.heap.size, 2, none⟩ = some (.int .i64 y.links) := by rw [hb4.cell (p := ⟨w3.heap.size, 2, none⟩) (by simp)]; exact cell_new w3 _ _ 2
          have q5 : w4.cell? ⟨w3.heap.size, 5, none⟩ = some (.bool false) := by rw [hb4.cell (p := ⟨w3.heap.size, 5, none⟩) (by simp)]; exact cell_new w3 _ _ 5
          have hz4 : w3.heap.size < w4.heap.size := by have := hb4.size; simp at this; omega
          obtain ⟨qb, hqb⟩ : ∃ qb, qb = w3.heap.size := ⟨_, rfl⟩
          have hqr : qb ≠ r := by omega
          rw [← hqb] at q4 q5 hz4 ⊢
          have HZ := Lib.hid hqb
          clear hb4 hqb hz3
          go_wp2_with fail
          (with_reducible refine (H5e.out w4 HB4.out).mono ?_)
          rintro e w5 ⟨rfl, rfl⟩
          go_wp2_with fail
          (with_reducible refine (HCT.out w4 HB4.out).mono ?_)
          rintro e w5 ht5
          obtain ⟨rfl, hK5, hR5⟩ := ht5
          have q4' : w5.cell? ⟨qb, 2, none⟩ = some (.int .i64 y.links) := (hK5.cell_ hz4 hqr 2).trans q4
          have q5' : w5.cell? ⟨qb, 5, none⟩ = some (.bool false) := (hK5.cell_ hz4 hqr 5).trans q5
          have hz5 : qb < w5.heap.size := by have := hK5.size; omega
          have HLI := Lib.hid (rlinks_tr id (-1) y w5 hR5 HL1.out HY1.out (by omega) hlk)
          have HT5 : Hid (RTurn F w4 r (cutName T d n1) (.tuple #[]) (.returned (.tuple #[])) w5) := ⟨rfl, hK5, hR5⟩
          clear hK5 hR5 q4 q5
          go_wp2_with fail
          (with_reducible refine HLI.out.mono ?_)
          rintro e w6 ht6
          obtain ⟨rfl, hK6, hR6⟩ := ht6
          have q4 : w6.cell? ⟨qb, 2, none⟩ = some (.int .i64 y.links) := (hK6.cell_ hz5 hqr 2).trans q4'
          have q5 : w6.cell? ⟨qb, 5, none⟩ = some (.bool false) := (hK6.cell_ hz5 hqr 5).trans q5'
          have hz6 : qb < w6.heap.size := by have := hK6.size; omega
          have HT6 : Hid (RTurn (Grow F w4 w5) w5 r (amod id (fun x => { x with links := x.links + -1 }) (cutName T d n1)) (.tuple #[]) (.returned (.tuple #[])) w6) := ⟨rfl, hK6, hR6⟩
          clear hK6 hR6 q4' q5'
          go_wp2_with fail
          go_ret
          rw [HQ.out]
          exact (RTurnP.behind HH.out.low HB4.out (HT5.out.trans (HH.out.below HB4.out (Nat.le_refl _)).low HT6.out)).val _
      · have e1 : (y.links == 1) = false := by simpa using h3
        rw [if_neg (fun h => h3 h.1)] at HQ
        clear h3
        go_enter Tryz.func27, Tryz.ntmps27
        go_wp2_with fail
        (with_reducible refine H1.out.mono ?_)
        rintro e w1 ⟨rfl, hb1⟩
        have HB1 := Lib.hid hb1
        clear hb1
        go_wp2_with fail
        (with_reducible refine (H4y.out w1 HB1.out).mono ?_)
        rintro e w3 ⟨rfl, hb3⟩
        have HB3 := Lib.hid (HB1.out.trans (hb3.mono HB1.out.size))
        have hz3 := HB3.out.size
        clear hb3
        go_wp2_with fail
        (with_reducible refine (H3.out _ (HB3.out.trans ((wall w3 _).mono HB3.out.size))).mono ?_)
        rintro e w4 ⟨rfl, hb4⟩
        have HB4 := Lib.hid ((HB3.out.trans ((wall w3 _).mono HB3.out.size)).trans (hb4.mono (by simp; omega)))
        have q4 : w4.cell? ⟨w3.heap.size, 2, none⟩ = some (.int .i64 y.links) := by rw [hb4.cell (p := ⟨w3.heap.size, 2, none⟩) (by simp)]; exact cell_new w3 _ _ 2
        have q5 : w4.cell? ⟨w3.heap.size, 5, none⟩ = some (.bool y.closed) := by rw [hb4.cell (p := ⟨w3.heap.size, 5, none⟩) (by simp)]; exact cell_new w3 _ _ 5
        have hz4 : w3.heap.size < w4.heap.size := by have := hb4.size; simp at this; omega
        obtain ⟨qb, hqb⟩ : ∃ qb, qb = w3.heap.size := ⟨_, rfl⟩
        have hqr : qb ≠ r := by omega
        rw [← hqb] at q4 q5 hz4 ⊢
        have HZ := Lib.hid hqb
        clear hb4 hqb hz3
        go_wp2_with fail
        (with_reducible refine (H5e.out w4 HB4.out).mono ?_)
        rintro e w5 ⟨rfl, rfl⟩
        go_wp2_with fail
        (with_reducible refine (HCT.out w4 HB4.out).mono ?_)
        rintro e w5 ht5
        obtain ⟨rfl, hK5, hR5⟩ := ht5
        have q4' : w5.cell? ⟨qb, 2, none⟩ = some (.int .i64 y.links) := (hK5.cell_ hz4 hqr 2).trans q4
        have q5' : w5.cell? ⟨qb, 5, none⟩ = some (.bool y.closed) := (hK5.cell_ hz4 hqr 5).trans q5
        have hz5 : qb < w5.heap.size := by have := hK5.size; omega
        have HLI := Lib.hid (rlinks_tr id (-1) y w5 hR5 HL1.out HY1.out (by omega) hlk)
        have HT5 : Hid (RTurn F w4 r (cutName T d n1) (.tuple #[]) (.returned (.tuple #[])) w5) := ⟨rfl, hK5, hR5⟩
        clear hK5 hR5 q4 q5
        go_wp2_with fail
        (with_reducible refine HLI.out.mono ?_)
        rintro e w6 ht6
        obtain ⟨rfl, hK6, hR6⟩ := ht6
        have q4 : w6.cell? ⟨qb, 2, none⟩ = some (.int .i64 y.links) := (hK6.cell_ hz5 hqr 2).trans q4'
        have q5 : w6.cell? ⟨qb, 5, none⟩ = some (.bool y.closed) := (hK6.cell_ hz5 hqr 5).trans q5'
        have hz6 : qb < w6.heap.size := by have := hK6.size; omega
        have HT6 : Hid (RTurn (Grow F w4 w5) w5 r (amod id (fun x => { x with links := x.links + -1 }) (cutName T d n1)) (.tuple #[]) (.returned (.tuple #[])) w6) := ⟨rfl, hK6, hR6⟩
        clear hK6 hR6 q4' q5'
        go_wp2_with fail
        go_ret
        rw [HQ.out]
        exact (RTurnP.behind HH.out.low HB4.out (HT5.out.trans (HH.out.below HB4.out (Nat.le_refl _)).low HT6.out)).val _
  · have HQ : Hid (unlinkM T ls = ((lookE T ls).2, T)) := by
      show unlinkM T ls = _
      have he : unlinkE T ls = (lookE T ls).2 := by unfold unlinkE; rw [if_pos h1]
      unfold unlinkM
      rw [he, if_neg h1]
    generalize lookE T ls = lk at *
    obtain ⟨id, e1⟩ := lk
    simp only at h1 H1 HQ
    have hne : (e1 == 0) = false := by simpa using h1
    have hne2 : (e1 != 0) = true := by simpa using h1
    clear h hT hS hE h1
    go_enter Tryz.func27, Tryz.ntmps27
    go_wp2_with fail
    (with_reducible refine H1.out.mono ?_)
    rintro e w1 ⟨rfl, hb1⟩
    have HB1 := Lib.hid hb1
    clear hb1
    go_wp2_with fail
    go_ret
    exact RTurn.no HH.out HB1.out HQ.out
end
end Go.Proofs.YtbapdoicejakhaaGreat
namespace Go.Proofs.YtbapdoicejakhaaGreat
open Go.ChangeShapes Go.WideShapes Go.ChangeAt Go.RowKit
set_option linter.unusedVariables false
set_option linter.unusedSimpArgs false

theorem rmdirM_bad {T : TrM} {p : List Nm} {v : Int} (h : rmdirE T p = v) (hv : v ≠ 0) : rmdirM T p = (v, T) := by
  unfold rmdirM
  rw [h, if_neg hv]
section
variable {F : Nat → Prop} {r : Nat} {T : TrM}
set_option maxRecDepth 100000 in
set_option maxHeartbeats 8000000 in
theorem rrmdir_any {S : Nat → Prop} (a : Option Addr) (n c : Nat) (ls : List Nm) (w : World) (h : RefAt F w r T) (hT : OkM T) (hS : StrsAt S w a n (ls.map strOf)) (hc : n ≤ c) (hn8 : n ≤ 1000000) :
    Calls Tryz.prog 23 #[ptr r, .slice a n c] w (RTurn F w r (rmdirM T ls).2 (.int .i64 (rmdirM T ls).1)) := by
  have hE : (entsM T).length ≤ 1000000 := by have := ents_few hT; omega
  have hln : ls.length = n := by have := hS.length; simpa using this
  have H1 := Lib.hid (rLook_any a n c ls w h hT hE hS)
  have H3 := Lib.hid (fun w1 (hb : Below w.heap.size w w1) => rplace_any a n c ls w1 (h.below hb (Nat.le_refl _)) hT hE (hS.below hb (Nat.le_refl _)) hc hn8)
  have H4 := Lib.hid (fun w1 (hb : Below w.heap.size w w1) id => rlist_any id w1 (h.below hb (Nat.le_refl _)) hT)
  have H5 := Lib.hid (fun w1 (hb : Below w.heap.size w w1) d nm => rentry_any d nm w1 (h.below hb (Nat.le_refl _)) hE)
  have HH := Lib.hid h
  have HT := Lib.hid hT
  have hr0 := h.low r h.own
  by_cases h1 : (lookE T ls).2 = 0
  · have hlk0 := lookE_zero h1
    rw [hlk0] at h1 H1
    have hl2 : lookM T 0 ls = ((lookM T 0 ls).1, 0) := Prod.ext rfl h1
    obtain ⟨y, hy⟩ := Option.isSome_iff_exists.1 (lookM_there hT ls 0 (root_there hT) h1)
    have hue : rmdirE T ls = if y.kind ≠ 2 then 23 else if (lookM T 0 ls).1 = 0 then 1 else if 0 < y.names.length then 24 else 0 := by
      unfold rmdirE
      rw [hlk0, if_neg (by rw [h1]; simp), kindM_of hy, namesM_of hy]
    obtain ⟨id, hid⟩ : ∃ id, id = (lookM T 0 ls).1 := ⟨_, rfl⟩
    rw [← hid] at hl2 hy hue
    rw [hl2] at H1
    simp only at H1
    have HLI := Lib.hid (fun w1 hb => H4.out w1 hb id)
    have hlm : listM T id = if y.kind = 2 then (y.names.map (·.1), 0) else ([], 23) := by unfold listM; rw [hy]
    rw [hlm] at HLI
    by_cases h2 : y.kind = 2
    · rw [if_pos h2] at HLI
      rw [if_neg (by simpa using h2)] at hue
      by_cases h3 : ls = []
      · have hid0 : id = 0 := by rw [hid, h3]; rfl
        rw [if_pos hid0] at hue
        have hn0 : n = 0 := by rw [← hln, h3]; rfl
        have HQ := Lib.hid (rmdirM_bad hue (by omega))
        subst hn0
        clear h hT hS hE H4 hlk0 h1 hl2 hue hid hy h2 hlm h3 hid0 hln hc
        go_enter Tryz.func23, Tryz.ntmps23
        go_wp2_with fail
        (with_reducible refine H1.out.mono ?_)
        rintro e w1 ⟨rfl, hb1⟩
        have HB1 := Lib.hid hb1
        clear hb1
        go_wp2_with fail
        (with_reducible refine (HLI.out w1 HB1.out).mono ?_)
        rintro e w3 ⟨al, cl, rfl, -, -, hb3⟩
        have HB3 := Lib.hid (HB1.out.trans (hb3.mono HB1.out.size))
        clear hb3
        simp only [List.length_map]
        go_wp2_with fail
        go_ret
        exact RTurn.no HH.out HB3.out HQ.out
      · have hid0 : id ≠ 0 := fun e => by
          obtain ⟨d, x, n1, _, _, hx, _, hxn, _, -⟩ := place_of_look hl2 h3
          exact (hT.leads d x hx _ (aget_mem hxn)).2 e
        rw [if_neg hid0] at hue
        have hn0 : ((n : Int) == 0) = false := by
          have : ls.length ≠ 0 := fun e => h3 (List.eq_nil_of_length_eq_zero e)
          simp; omega
        obtain ⟨m, hm⟩ : ∃ m, m = y.names.length := ⟨_, rfl⟩
        have hml : (y.names.map (·.1)).length = m := by rw [List.length_map, hm]
        rw [← hm] at hue
        by_cases h4 : 0 < m
        · rw [if_pos h4] at hue
          have HQ := Lib.hid (rmdirM_bad hue (by omega))
          have hd4 : decide (0 < m) = true := by simpa using h4
          generalize y.names.map (·.1) = L at *
          subst hml
          clear h hT hS hE H4 hlk0 h1 hl2 hue hid hy h2 hlm h3 hid0 hln hc hm
          go_enter Tryz.func23, Tryz.ntmps23
          go_wp2_with fail
          (with_reducible refine H1.out.mono ?_)
          rintro e w1 ⟨rfl, hb1⟩
          have HB1 := Lib.hid hb1
          clear hb1
          go_wp2_with fail
          (with_reducible refine (HLI.out w1 HB1.out).mono ?_)
          rintro e w3 ⟨al, cl, rfl, -, -, hb3⟩
          have HB3 := Lib.hid (HB1.out.trans (hb3.mono HB1.out.size))
          clear hb3
          go_wp2_with fail
          go_ret
          exact RTurn.no HH.out HB3.out HQ.out
        · rw [if_neg h4] at hue
          have hm0 : m = 0 := by omega
          have hnil : y.names = [] := List.eq_nil_of_length_eq_zero (by omega)
          rw [hnil] at HLI
          obtain ⟨d, x, n1, hp1, hp2, hx, hxk, hxn, hmm, -⟩ := place_of_look hl2 h3
          rw [hp1] at H3
          simp only at H3
          have hidd : id ≠ d := fun e => by rw [e, hx] at hy; cases hy; rw [hnil] at hxn; cases hxn
          have HL1 := Lib.hid ((Lax.of hT).cut d n1)
          obtain ⟨k, hk, -⟩ := lax_ent (Lax.of hT) hx hxn
          have H5e := Lib.hid (fun w1 hb => H5.out w1 hb d n1)
          rw [hk] at H5e
          have HCT : Hid (∀ w4, Below w.heap.size w w4 → Calls Tryz.prog 68 #[ptr r, .int .i64 k] w4 (RTurn F w4 r (cutName T d n1) (.tuple #[]))) := fun w4 hb => by
            obtain ⟨k', hk', hc'⟩ := rcut_tr d n1 id x w4 (h.below hb (Nat.le_refl _)) (Lax.of hT) hx hxn
            rw [hk] at hk'
            have : k = k' := by omega
            rw [this]
            exact hc'
          have HY1 : Hid (aget id (cutName T d n1) = some y) := by
            show aget id (cutName T d n1) = some y
            unfold cutName
            rw [aget_amod, if_neg hidd]
            exact hy
          have HNIL := Lib.hid hnil
          have HQ : Hid (rmdirM T ls = (0, adel id (cutName T d n1))) := by
            show rmdirM T ls = _
            unfold rmdirM rmdirOk
            rw [hue, hp1, ← hid]
            rfl
          clear h hT hS hE H4 H5 hlk0 h1 hl2 hue hid hy h2 h3 hp1 hp2 hx hxk hxn hmm hk hidd hm0 hnil hml hm h4 hlm hln hid0 hc
          go_enter Tryz.func23, Tryz.ntmps23
          go_wp2_with fail
          (with_reducible refine H1.out.mono ?_)
          rintro e w1 ⟨rfl, hb1⟩
          have HB1 := Lib.hid hb1
          clear hb1
          go_wp2_with fail
          (with_reducible refine (HLI.out w1 HB1.out).mono ?_)
          rintro e w3 ⟨al, cl, rfl, -, -, hb3⟩
          have HB3 := Lib.hid (HB1.out.trans (hb3.mono HB1.out.size))
          clear hb3
          simp only [List.map_nil, List.length_nil]
          go_wp2_with fail
          (with_reducible refine (H3.out _ HB3.out).mono ?_)
          rintro e w4 ⟨rfl, hb4⟩
          have HB4 := Lib.hid (HB3.out.trans (hb4.mono HB3.out.size))
          clear hb4
          go_wp2_with fail
          (with_reducible refine (H5e.out w4 HB4.out).mono ?_)
          rintro e w5 ⟨rfl, rfl⟩
          go_wp2_with fail
          (with_reducible refine (HCT.out w4 HB4.out).mono ?_)
          rintro e w5 ht5
          obtain ⟨rfl, hK5, hR5⟩ := ht5
          have HGO := Lib.hid (rgone_tr id y w5 hR5 HL1.out.sorted HL1.out.len HY1.out HNIL.out)
          have HT5 : Hid (RTurn F w4 r (cutName T d n1) (.tuple #[]) (.returned (.tuple #[])) w5) := ⟨rfl, hK5, hR5⟩
          clear hK5 hR5
          go_wp2_with fail
          (with_reducible refine HGO.out.mono ?_)
          rintro e w6 ht6
          have HT6 := Lib.hid ht6
          obtain rfl := ht6.1
          clear ht6
          go_wp2_with fail
          go_ret
          rw [HQ.out]
          exact (RTurnP.behind HH.out.low HB4.out (HT5.out.trans (HH.out.below HB4.out (Nat.le_refl _)).low HT6.out)).val _
    · rw [if_neg h2] at HLI
      rw [if_pos h2] at hue
      have HQ := Lib.hid (rmdirM_bad hue (by omega))
      clear h hT hS hE H4 hlk0 h1 hl2 hue hid hy h2 hlm hln hc
      go_enter Tryz.func23, Tryz.ntmps23
      go_wp2_with fail
      (with_reducible refine H1.out.mono ?_)
      rintro e w1 ⟨rfl, hb1⟩
      have HB1 := Lib.hid hb1
      clear hb1
      go_wp2_with fail
      (with_reducible refine (HLI.out w1 HB1.out).mono ?_)
      rintro e w3 ⟨al, cl, rfl, -, -, hb3⟩
      have HB3 := Lib.hid (HB1.out.trans (hb3.mono HB1.out.size))
      clear hb3
      simp only [List.length_nil]
      go_wp2_with fail
      go_ret
      exact RTurn.no HH.out HB3.out HQ.out
  · have HQ : Hid (rmdirM T ls = ((lookE T ls).2, T)) := rmdirM_bad (by unfold rmdirE; rw [if_pos h1]) h1
    generalize lookE T ls = lk at *
    obtain ⟨id, e1⟩ := lk
    simp only at h1 H1 HQ
    have hne : (e1 == 0) = false := by simpa using h1
    have hne2 : (e1 != 0) = true := by simpa using h1
    clear h hT hS hE h1 hln hc
    go_enter Tryz.func23, Tryz.ntmps23
    go_wp2_with fail
    (with_reducible refine H1.out.mono ?_)
    rintro e w1 ⟨rfl, hb1⟩
    have HB1 := Lib.hid hb1
    clear hb1
    go_wp2_with fail
    go_ret
    exact RTurn.no HH.out HB1.out HQ.out
end
end Go.Proofs.YtbapdoicejakhaaGreat
namespace Go.Proofs.YtbapdoicejakhaaGreat
open Go.ChangeShapes Go.WideShapes Go.ChangeAt Go.RowKit
set_option linter.unusedVariables false
set_option linter.unusedSimpArgs false

/-- What the reference's Read gives. -/
def RefPart (F : Nat → Prop) (w : World) (bs : List UInt8) (k : Int) (e : Ending) (w' : World) : Prop :=
  ∃ a n c, e = .returned (.tuple #[.slice a n c, .int .i64 k]) ∧ RowAt F w a n (bs.map bv) ∧ w = w'
section
variable {F : Nat → Prop} {r : Nat} {T : TrM}
set_option maxRecDepth 100000 in
set_option maxHeartbeats 8000000 in
theorem rread_any (id at_ n : Int) (w : World) (h : RefAt F w r T) (hT : OkP T) (hA : (Lit.int .i64 at_).wf = true) (hN : (Lit.int .i64 n).wf = true) : Calls Tryz.prog 35 #[ptr r, .int .i64 id, .int .i64 at_, .int .i64 n] w (RefPart (Off F r) w (readB T id at_ n) (readE T id at_ n)) := by
  have HF := Lib.hid (rfile_any id w h hT)
  have hr0 := h.low r h.own
  have hfe : fileE T id ≠ 0 ∨ fileE T id = 0 := by omega
  rcases hfe with h0 | h0
  · have e1 : readE T id at_ n = fileE T id ∧ readB T id at_ n = [] := by
      unfold readE readB fileE at *
      cases hx : aget id T with
      | none => simp
      | some x =>
        rw [hx] at h0
        simp only at h0 ⊢
        by_cases hk : x.kind = 2
        · simp [hk]
        · rw [if_neg hk] at h0; exact absurd rfl h0
    rw [e1.1, e1.2]
    generalize fileE T id = f at *
    have hne : (f == 0) = false := by simpa using h0
    have hne2 : (f != 0) = true := by simpa using h0
    clear h hT e1 h0 hA hN
    go_enter Tryz.func35, Tryz.ntmps35
    go_wp2_with fail
    (with_reducible refine HF.out.mono ?_)
    rintro e w1 ⟨rfl, rfl⟩
    go_wp2_with fail
    go_ret2
    exact ⟨none, 0, 0, rfl, RowAt.nil _ _ _, rfl⟩
  · obtain ⟨x, hx, hk⟩ : ∃ x, aget id T = some x ∧ x.kind ≠ 2 := by
      unfold fileE at h0
      cases hx : aget id T with
      | none => rw [hx] at h0; cases h0
      | some x =>
        rw [hx] at h0
        exact ⟨x, rfl, fun hk => by simp [hk] at h0⟩
    obtain ⟨k, hi, hq⟩ := idx_some hT.sorted hx
    have hrf : rfI T id = k := by unfold rfI; rw [if_pos h0]; exact hi
    rw [hrf, h0] at HF
    have e1 : readE T id at_ n = partE at_ n ∧ readB T id at_ n = partB x.b at_ n := by
      unfold readE readB
      rw [hx]
      exact ⟨if_neg hk, if_neg hk⟩
    rw [e1.1, e1.2]
    obtain ⟨b, off, c, a, c', hc1, hO, hb, hcd, hcap, hrow⟩ := h.data (k := k) (d := x.b) (by rw [List.getElem?_map, hq]; rfl)
    have hkl : k < T.length := (List.getElem?_eq_some_iff.1 hq).1
    rw [List.length_map] at hc1
    have hlen := hT.len
    have hsz := (hT.each id x hx).size
    obtain ⟨l, hl⟩ : ∃ l, l = x.b.length := ⟨_, rfl⟩
    rw [← hl] at hcd hcap hrow hsz
    have hcc := hcap.1
    have i0 : (0 : Int) ≤ k := by omega
    have i1 : (k : Int) < T.length := by omega
    have HR := Lib.hid hrow
    have HL := Lib.hid hl
    simp [Lit.wf, IntKind.min, IntKind.max, IntKind.signed, IntKind.bits] at hA hN
    generalize x.b = bs at *
    generalize T.length = tl at *
    clear h hT e1 h0 hx hk hi hq hrf hl hrow hcap
    unfold partE partB
    by_cases h1 : at_ < 0
    · rw [if_pos (.inl h1), if_pos (.inl h1)]
      go_enter Tryz.func35, Tryz.ntmps35
      go_wp2_with fail
      (with_reducible refine HF.out.mono ?_)
      rintro e w1 ⟨rfl, rfl⟩
      go_wp2_with fail
      go_ret2
      exact ⟨none, 0, 0, rfl, RowAt.nil _ _ _, rfl⟩
    · by_cases h2 : n < 0
      · rw [if_pos (.inr h2), if_pos (.inr h2)]
        go_enter Tryz.func35, Tryz.ntmps35
        go_wp2_with fail
        (with_reducible refine HF.out.mono ?_)
        rintro e w1 ⟨rfl, rfl⟩
        go_wp2_with fail
        go_ret2
        exact ⟨none, 0, 0, rfl, RowAt.nil _ _ _, rfl⟩
      · rw [if_neg (by omega), if_neg (by omega)]
        obtain ⟨A, rfl⟩ : ∃ A : Nat, at_ = A := ⟨at_.toNat, by omega⟩
        obtain ⟨N, rfl⟩ : ∃ N : Nat, n = N := ⟨n.toNat, by omega⟩
        simp only [Int.toNat_natCast]
        have hd1 : decide ((A : Int) < 0) = false := by simp
        have hd2 : decide ((N : Int) < 0) = false := by simp
        by_cases h3 : l ≤ A
        · have hd3 : decide ((l : Int) ≤ (A : Int)) = true := by simp; omega
          have hd3' : decide (l ≤ A) = true := by simpa using h3
          have HE : Hid ((bs.drop A).take N = []) := by
            show (bs.drop A).take N = []
            rw [List.drop_of_length_le (by have := HL.out; omega), List.take_nil]
          go_enter Tryz.func35, Tryz.ntmps35
          go_wp2_with fail
          (with_reducible refine HF.out.mono ?_)
          rintro e w1 ⟨rfl, rfl⟩
          go_wp2_with fail
          go_ret2
          exact ⟨none, 0, 0, rfl, by rw [HE.out]; exact RowAt.nil _ _ _, rfl⟩
        · have hd3 : decide ((l : Int) ≤ (A : Int)) = false := by simp; omega
          have hd3' : decide (l ≤ A) = false := by simpa using h3
          obtain ⟨b2, off2, rfl, hO2, hb2, -⟩ := HR.out.at_ (by omega)
          have hca : ¬ c' = A := by omega
          have e1 : IntKind.i64.wrap ((l : Int) - (A : Int)) = (l : Int) - (A : Int) := IntWalk.i64_in _ (by omega)
          have i2 : (0 : Int) ≤ (A : Int) := by omega
          have i5 : (l : Int) ≤ (c' : Int) := by omega
          by_cases h4 : l - A < N
          · have hd4 : decide ((l : Int) - (A : Int) < (N : Int)) = true := by simp; omega
            have e2 : IntKind.i64.wrap ((A : Int) + ((l : Int) - (A : Int))) = (l : Int) := by rw [show (A : Int) + ((l : Int) - (A : Int)) = l by omega]; exact IntWalk.i64_in _ (by omega)
            have i3 : (A : Int) ≤ (l : Int) := by omega
            have HE : Hid ((bs.drop A).take N = (bs.drop A).take (l - A)) := by
              show (bs.drop A).take N = _
              have := HL.out
              rw [List.take_of_length_le (by simp; omega), List.take_of_length_le (by simp; omega)]
            go_enter Tryz.func35, Tryz.ntmps35
            go_wp2_with fail
            (with_reducible refine HF.out.mono ?_)
            rintro e w1 ⟨rfl, rfl⟩
            go_wp2_with fail
            go_ret2
            refine ⟨some ⟨b2, off2 + A, none⟩, l - A, _, rfl, ?_, rfl⟩
            rw [HE.out, List.map_take, List.map_drop]
            have := (HR.out.drop A).take (l - A)
            rwa [Nat.min_self] at this
          · have hd4 : decide ((l : Int) - (A : Int) < (N : Int)) = false := by simp; omega
            have e2 : IntKind.i64.wrap ((A : Int) + (N : Int)) = (A : Int) + (N : Int) := IntWalk.i64_in _ (by omega)
            have i3 : (A : Int) ≤ (A : Int) + (N : Int) := by omega
            have i4 : (A : Int) + (N : Int) ≤ (c' : Int) := by omega
            go_enter Tryz.func35, Tryz.ntmps35
            go_wp2_with fail
            (with_reducible refine HF.out.mono ?_)
            rintro e w1 ⟨rfl, rfl⟩
            go_wp2_with fail
            go_ret2
            refine ⟨some ⟨b2, off2 + A, none⟩, N, c' - A, ?_, ?_, rfl⟩
            · show Ending.returned (.tuple #[.slice (some ⟨b2, off2 + A, none⟩) (A + N - A) (c' - A), .int .i64 0]) = _
              rw [show A + N - A = N by omega]
            · rw [List.map_take, List.map_drop]
              have := (HR.out.drop A).take N
              rwa [Nat.min_eq_right (by omega)] at this
end
end Go.Proofs.YtbapdoicejakhaaGreat
