/- permafrostlaw5.do, beside blocks of the law's own (P0) that it leaves alone. -/
import Derived.Test.YtkdomgiabiedlaaDo
namespace Go.Proofs.Ytkdomgiabiedlaa
open Go.ChangeShapes Go.WideShapes Go.ChangeAt Go.RowKit
set_option linter.unusedVariables false
set_option linter.unusedSimpArgs false

/-- What neither disk touches. -/
def Far (W : World) (P0 : Nat → Prop) (b : Nat) : Prop := W.heap.size ≤ b ∧ ¬ P0 b
def Both2 (W : World) (P0 Q : Nat → Prop) (w : World) (d r : Nat) (M : DiskM) : Prop :=
  ∃ sb mb s n t Fr R, DiskIn W Q w d sb mb M ∧ RefAt Fr w r s n t R ∧ (∀ x, Fr x → Q x ∧ W.heap.size ≤ x) ∧ SimC M R ∧ ∀ x, P0 x → Q x ∧ ¬ Fr x
def Did2 (W : World) (P0 : Nat → Prop) (w : World) (d r : Nat) (M : DiskM) (e : Ending) (w' : World) : Prop :=
  e = .returned (.bool true) ∧ ∃ Q' M', Both2 W P0 Q' w' d r M' ∧ M'.writes ≤ M.writes + 1 ∧ Keeps (Far W P0) w w'
def Mid2 (W : World) (P0 : Nat → Prop) (w w1 : World) (d r q : Nat) (M : DiskM) (wx : World) : Prop :=
  ∃ Q2 M2, Both2 W P0 Q2 wx d r M2 ∧ M2.writes ≤ M.writes + 1 ∧ (∀ j, wx.cell? ⟨q, j, none⟩ = w1.cell? ⟨q, j, none⟩) ∧ Keeps (Far W P0) w wx
/-- The bytes that are handed in: the Ask's own, or a new row. -/
def BRow2 (S : Nat → Prop) (w1 : World) (v : Value) (wx : World) : Prop :=
  ∃ a n c bs, v = .slice a n c ∧ n ≤ c ∧ n ≤ 140737488351232 ∧ RowAt (fun b => S b ∨ w1.heap.size ≤ b) wx a n ((bs : List UInt8).map bv) ∧ Below w1.heap.size w1 wx
theorem Mid2.of {W w w1 wx : World} {P0 Q Fr : Nat → Prop} {d sb mb r s n t q : Nat} {M M2 : DiskM} {R : RefM} (hD : DiskIn W Q wx d sb mb M2) (hR : RefAt Fr wx r s n t R) (hF : ∀ x, Fr x → W.heap.size ≤ x) (hS : SimC M2 R) (hw : M2.writes ≤ M.writes + 1) (hq : ∀ j, wx.cell? ⟨q, j, none⟩ = w1.cell? ⟨q, j, none⟩) (hQ : ∀ x, Fr x → Q x) (hP : ∀ x, P0 x → Q x ∧ ¬ Fr x) (hK : Keeps (Far W P0) w wx) : Mid2 W P0 w w1 d r q M wx :=
  ⟨Q, M2, ⟨sb, mb, s, n, t, Fr, R, hD, hR, fun x hx => ⟨hQ x hx, hF x hx⟩, hS, hP⟩, hw, hq, hK⟩
/-- The law's own, one step after the other. -/
theorem far2 {W w w1 w2 w3 : World} {P0 Q1 Fr : Nat → Prop} (hW : W.heap.size ≤ w.heap.size) (h1 : Below w.heap.size w w1) (h2 : Keeps (Wild W Q1) w1 w2) (h3 : Keeps Fr w2 w3) (hQ : ∀ x, P0 x → Q1 x) (hF : ∀ x, Fr x → W.heap.size ≤ x) (hP : ∀ x, P0 x → ¬ Fr x) : Keeps (Far W P0) w w3 := by
  have ha := ((Keeps.below h1).mono (fp' := Far W P0) fun x hx hb => by omega).trans h2 (fun x _ hx => ⟨hx.1, fun hp => hx.2 (hQ x hp)⟩)
  exact ha.trans h3 fun x _ hx => ⟨hF x hx, fun hp => hP x hp hx⟩
set_option maxRecDepth 100000 in
set_option maxHeartbeats 16000000 in
theorem do2_any {W w : World} {P0 Q S : Nat → Prop} {d r : Nat} {M : DiskM} (x : AskM) (ba : Option Addr) (bn bc : Nat) (ka : Option Addr) (kn kc : Nat) (hB : Both2 W P0 Q w d r M) (hSP : ∀ b, S b → b < W.heap.size ∨ P0 b) (hw : M.writes ≤ 1000000) (hbr : RowAt S w ba bn (x.b.map bv)) (hbc : bn ≤ bc) (hbl : bn ≤ 140737488351232) (hkr : RowAt S w ka kn (x.keep.map Value.bool)) :
    Calls Try.prog 21 #[.pointer (some ⟨d, 0, none⟩), .pointer (some ⟨r, 0, none⟩), askV ba bn bc ka kn kc x] w (Did2 W P0 w d r M) := by
  obtain ⟨sb, mb, s, n, t, Fr, R, hD, hR, hFr, hS, hP0⟩ := hB
  have HP0 := Lib.hid hP0
  have HSP := Lib.hid hSP
  have HD := Lib.hid hD
  have HR := Lib.hid hR
  have HS := Lib.hid hS
  have HFR := Lib.hid hFr
  have HBR := Lib.hid hbr
  have HKR := Lib.hid hkr
  unfold askV
  clear hD hR hS hbr hkr hFr hP0 hSP
  go_enter Try.func21, Try.ntmps21
  go_upto_block 0 with (fail)
  have hBa : Below w.heap.size w (w.alloc (.cells #[.int .i64 x.kind, .int .i64 x.i, .slice ba bn bc, .slice ka kn kc, .int .i64 x.torn, .int .i64 x.cut] 45)) := (Below.refl _ _).alloc (Nat.le_refl _) _
  have hza : (w.alloc (.cells #[.int .i64 x.kind, .int .i64 x.i, .slice ba bn bc, .slice ka kn kc, .int .i64 x.torn, .int .i64 x.cut] 45)).heap.size = w.heap.size + 1 := by simp
  have hha : (w.alloc (.cells #[.int .i64 x.kind, .int .i64 x.i, .slice ba bn bc, .slice ka kn kc, .int .i64 x.torn, .int .i64 x.cut] 45)).heap[w.heap.size]? = some (.cells #[.int .i64 x.kind, .int .i64 x.i, .slice ba bn bc, .slice ka kn kc, .int .i64 x.torn, .int .i64 x.cut] 45) := (MapKept.heap_alloc w _).1
  generalize (w.alloc (.cells #[.int .i64 x.kind, .int .i64 x.i, .slice ba bn bc, .slice ka kn kc, .int .i64 x.torn, .int .i64 x.cut] 45)) = w1 at hBa hza hha ⊢
  obtain ⟨q, hq⟩ : ∃ q, q = w.heap.size := ⟨_, rfl⟩
  rw [← hq] at hha ⊢
  have c0 : w1.cell? ⟨q, 0, none⟩ = some (.int .i64 x.kind) := by simp [World.cell?, hha]
  have c1 : w1.cell? ⟨q, 1, none⟩ = some (.int .i64 x.i) := by simp [World.cell?, hha]
  have c2 : w1.cell? ⟨q, 2, none⟩ = some (.slice ba bn bc) := by simp [World.cell?, hha]
  have c3 : w1.cell? ⟨q, 3, none⟩ = some (.slice ka kn kc) := by simp [World.cell?, hha]
  have c4 : w1.cell? ⟨q, 4, none⟩ = some (.int .i64 x.torn) := by simp [World.cell?, hha]
  have c5 : w1.cell? ⟨q, 5, none⟩ = some (.int .i64 x.cut) := by simp [World.cell?, hha]
  have hqw : q < w1.heap.size := by omega
  have HD1 := Lib.hid (HD.out.shield hBa)
  have HR1 := Lib.hid (HR.out.below hBa (Nat.le_refl _))
  have hSim := Lib.hid (HS.out.full HD.out HR.out)
  have hWw := HD.out.below.size
  have hnFr : ∀ z, Fr z → z < w.heap.size := HR.out.low
  have HNF := Lib.hid hnFr
  generalize hQ1 : (fun z => Q z ∨ (w.heap.size ≤ z ∧ z < w1.heap.size)) = Q1 at HD1
  have HQ1 : Hid (∀ z, Q z → Q1 z) := fun z hz => by rw [← hQ1]; exact .inl hz
  have HQq : Hid (Q1 q) := by rw [← hQ1]; exact .inr ⟨by omega, by omega⟩
  have HBA := Lib.hid hBa
  have HZA := Lib.hid hza
  have HQE := Lib.hid hq
  have hWq : W.heap.size ≤ q := by omega
  clear hQ1 hBa hza hha hnFr hq
  go_cut [] (fun wx => Mid2 W P0 w w1 d r q M wx)
  case first =>
    by_cases hk1 : x.kind = 1
    · have e1 : (x.kind == 1) = true := by simpa using hk1
      clear hk1
      go_upto_if 40 with (fail)
      go_cut [7] (fun s wx => BRow2 S w1 s wx)
      case first =>
        have hb1 := HBR.out.below HBA.out (Nat.le_refl _)
        by_cases h3 : 0 < bn % 3
        · have h3' : (0 : Int) < (bn : Int) % 3 := by omega
          have HSZ := Lib.hid (sized_at (S := S) ba bn bc 128 128 x.b w1 hb1 rfl hbc (by omega))
          clear hb1 h3
          go_wp2_with fail
          (with_reducible refine HSZ.out.mono ?_)
          rintro e w2 ⟨v2, rfl, hv2, hB2⟩
          obtain ⟨b2, k2, rfl, hk2, hr2⟩ := hv2.row
          have HRR : Hid (BRow2 S w1 (.slice (some ⟨b2, 0, none⟩) 128 k2) w2) := ⟨_, _, _, _, rfl, hk2, by omega, hr2.mono (fun b hb => .inr hb.1), hB2⟩
          clear hv2 hr2 HSZ
          go_wp2_with fail
          go_meet
          exact HRR.out
        · have h3' : ¬ (0 : Int) < (bn : Int) % 3 := by omega
          have HRR : Hid (BRow2 S w1 (.slice ba bn bc) w1) := ⟨_, _, _, _, rfl, hbc, hbl, hb1.mono (fun b hb => .inl hb), Below.refl _ _⟩
          clear hb1 h3
          go_wp2_with fail
          go_meet
          exact HRR.out
      case rest =>
        obtain ⟨a2, n2, k2, bs, rfl, hnk, hnl, hr2, hB2⟩ := hcut
        obtain ⟨w2, rfl⟩ : ∃ w2 : World, w2 = wc := ⟨_, rfl⟩
        have HRO := Lib.hid (roomy_any a2 n2 k2 bs 165 165 rfl w2 hr2 (by omega))
        have HR2 := Lib.hid hr2
        have hs2 := hB2.size
        clear hr2
        go_wp2_with fail
        (with_reducible refine HRO.out.mono ?_)
        clear HRO
        rintro e w3 ⟨g, rfl, hg, hg3, hB3⟩
        have hs3 := hB3.size
        have hB13 := hB2.trans (hB3.mono hs2)
        have hgw := (Array.getElem?_eq_some_iff.1 hg3).1
        have hfr : RowAt (fun b => b = g) w3 (some ⟨g, 0, none⟩) (n2 + 80) ((roomyL bs 165).map bv) := by
          have hbl2 : bs.length = n2 := by have := HR2.out.length; simpa using this
          have hrl : (roomyL bs 165).length = n2 + 80 := by unfold roomyL; simp [hbl2]
          exact row_take hg3 (by rw [List.take_of_length_le (by simp [hrl])]) hrl (by unfold maxLen; omega) rfl
        have hD3 := HD1.out.shield hB13
        generalize hQ3 : (fun z => Q1 z ∨ (w1.heap.size ≤ z ∧ z < w3.heap.size)) = Q3 at hD3
        have HQ3 : Hid (∀ z, (Q1 z ∨ (w1.heap.size ≤ z ∧ z < w3.heap.size)) → Q3 z) := fun z hz => by rw [← hQ3]; exact hz
        have HD3 := Lib.hid hD3
        have HR3 := Lib.hid (HR1.out.below hB13 (Nat.le_refl _))
        have hbr3 : RowAt (fun b => S b ∨ (w1.heap.size ≤ b ∧ b < w3.heap.size)) w3 a2 n2 (bs.map bv) := HR2.out.move hs3 fun b hb hbw => ⟨hb.imp id (fun h => ⟨h, by omega⟩), hB3.block b hbw⟩
        have HB3R := Lib.hid hbr3
        have HFU := Lib.hid hfr
        have d1 : w3.cell? ⟨q, 1, none⟩ = some (.int .i64 x.i) := (hB13.cell (p := ⟨q, 1, none⟩) hqw).trans c1
        have hq3 : Q3 q := HQ3.out q (.inl HQq.out)
        have HQ3q := Lib.hid hq3
        have hqw3 : q < w3.heap.size := by omega
        have hnq : ¬ Fr q := fun hf => by have := HNF.out q hf; have := HQE.out; omega
        have HNQ := Lib.hid hnq
        have hwe := sim_writeE hSim.out x.i bs
        have ht8 := (hfr.take n2)
        rw [Nat.min_eq_right (by omega), ← List.map_take, roomy_take bs 165 (show bs.length = n2 by have := HR2.out.length; simpa using this)] at ht8
        have hWR := in_write (HD3.out.grow (Below.refl _ _).drew) x.i (some ⟨g, 0, none⟩) n2 (n2 + 80) bs (by omega) (ht8.kept (w' := w3.drew) (Nat.le_refl _) (fun _ _ _ => rfl))
        rw [hwe] at hWR
        have HWR := Lib.hid hWR
        generalize hz : rwriteE x.i bs = z at HWR
        have hSb : ∀ b, (S b ∨ (w1.heap.size ≤ b ∧ b < w3.heap.size)) → ¬ Wild W Q3 b ∧ ¬ Fr b := fun b hb => by
          refine ⟨fun hf => ?_, fun hf => ?_⟩
          · rcases hb with hb | hb
            · rcases HSP.out b hb with h | h
              · have := hf.1; omega
              · exact hf.2 (HQ3.out b (.inl (HQ1.out b (HP0.out b h).1)))
            · exact hf.2 (HQ3.out b (.inr hb))
          · rcases hb with hb | hb
            · rcases HSP.out b hb with h | h
              · have := (HFR.out b hf).2; omega
              · exact (HP0.out b h).2 hf
            · have := HNF.out b hf; have := HZA.out; omega
        have HRW : Hid (∀ w4, Keeps (Wild W Q3) w3.drew w4 → Calls Try.prog 32 #[.pointer (some ⟨r, 0, none⟩), .int .i64 x.i, .slice a2 n2 k2] w4 (RefTurned Fr w4 r (rwriteM R x.i bs) (.int .i64 z))) := fun w4 hK4 => by
          have hk4 : Keeps (Wild W Q3) w3 w4 := ⟨hK4.os, hK4.tape, hK4.output, hK4.size, hK4.block⟩
          have h1 := rwrite_any x.i a2 n2 k2 bs (by have := hSim.out.bd; have := hSim.out.writes; omega) w4 (hbr3.keeps hk4 (fun b hb => (hSb b hb).1)) (HR3.out.keeps hk4 (fun b hb hf => hf.2 (HQ3.out b (.inl (HQ1.out b (HFR.out b hb).1)))))
          rw [hz] at h1
          exact h1
        have HIN : Hid (∀ w4 w5, Keeps (Wild W Q3) w3.drew w4 → Keeps Fr w4 w5 → Calls Try.prog 33 #[.slice (some ⟨g, 0, none⟩) (n2 + 80) (n2 + 80), .slice a2 n2 k2, .int .u8 165] w5 (SameIsB w5 true)) := fun w4 w5 hK4 hK5 => by
          have hk4 : Keeps (Wild W Q3) w3 w4 := ⟨hK4.os, hK4.tape, hK4.output, hK4.size, hK4.block⟩
          have hg' : w1.heap.size ≤ g ∧ g < w3.heap.size := ⟨by omega, hgw⟩
          refine intact_yes (some ⟨g, 0, none⟩) a2 n2 (n2 + 80) k2 bs 165 165 rfl w5 ((hfr.keeps hk4 (fun b hb => ?_)).keeps hK5 (fun b hb => ?_)) (Nat.le_refl _) ((hbr3.keeps hk4 (fun b hb => (hSb b hb).1)).keeps hK5 (fun b hb => (hSb b hb).2)) (by omega)
          · subst hb; exact (hSb b (.inr hg')).1
          · subst hb; exact (hSb b (.inr hg')).2
        have HQ5 : Hid (∀ w4 w5, Keeps (Wild W Q3) w3.drew w4 → Keeps Fr w4 w5 → ∀ j, w5.cell? ⟨q, j, none⟩ = w1.cell? ⟨q, j, none⟩) := fun w4 w5 hK4 hK5 j =>
          (World.cell?_of_block (hK5.block q (Nat.lt_of_lt_of_le hqw3 hK4.size) hnq)).trans ((World.cell?_of_block (w := w3) (hK4.block q hqw3 (fun hf => hf.2 hq3))).trans (hB13.cell (p := ⟨q, j, none⟩) hqw))
        have hne : (z != z) = false := by simp
        have hn80 : n2 ≤ n2 + 80 := by omega
        have hi0 : (0 : Int) ≤ (n2 : Int) := by omega
        have hi1 : (n2 : Int) ≤ (n2 : Int) + 80 := by omega
        have hi2 : (n2 : Int) ≤ ((n2 + 80 : Nat) : Int) := by omega
        clear hQ3 hD3 hbr3 hfr hq3 hg3 hnq hwe ht8 hWR hz hSb
        go_wp2_with fail
        go_region_held3 (fun w' => w'.cell? ⟨q, 1, none⟩ = some (.int .i64 x.i)) ((first | exact d1 | exact (World.cell?_of_block (w := w3) (w' := w4) (a := ⟨q, 1, none⟩) (hK4.block q hqw3 (fun hf => hf.2 HQ3q.out))).trans d1 | exact hq5)) ((first | (go_at_call 12; refine HWR.out.mono ?_; rintro e w4 ⟨rfl, hD4, hK4⟩) | (go_at_call 32; refine (HRW.out w4 hK4).mono ?_; rintro e w5 ⟨rfl, F5, s5, n5, t5, hR5, hF5, hK5⟩; have hq5 := (HQ5.out w4 w5 hK4 hK5 1).trans c1) | (go_at_call 33; refine (HIN.out w4 w5 hK4 hK5).mono ?_; rintro e w6 ⟨rfl, qq, rfl⟩)))
        have hD5 := hD4.beside hK5 (fun z hz => ⟨HQ3.out z (.inl (HQ1.out z (HFR.out z hz).1)), (HFR.out z hz).2⟩) hF5 hR5.low
        have hBq : Below w5.heap.size w5 (w5.drewN qq) := below_drewq (Below.refl _ _) qq
        have hs4 := hK4.size
        have HMID : Hid (Mid2 W P0 w w1 d r q M (w5.drewN qq)) := Mid2.of (hD5.grow hBq) (hR5.below hBq (Nat.le_refl _)) (fun z hz => by rcases hF5 z hz with h | h; exact (HFR.out z h).2; have : w3.heap.size ≤ w4.heap.size := hs4; omega) (sim_write hSim.out x.i bs) (by unfold writeM; split; exact Int.le_refl _; omega) (fun j => HQ5.out w4 w5 hK4 hK5 j) (fun z hz => .inr hz) (fun z hz => ⟨.inl (HQ3.out z (.inl (HQ1.out z (HP0.out z hz).1))), fun hf => by rcases hF5 z hf with h | h; exact (HP0.out z hz).2 h; have := HD.out.low z (HP0.out z hz).1; have : w3.heap.size ≤ w4.heap.size := hs4; have := HZA.out; omega⟩) ((far2 hWw (HBA.out.trans (hB13.mono HBA.out.size)) (⟨hK4.os, hK4.tape, hK4.output, hK4.size, hK4.block⟩ : Keeps (Wild W Q3) w3 w4) hK5 (fun z hz => HQ3.out z (.inl (HQ1.out z (HP0.out z hz).1))) (fun z hz => (HFR.out z hz).2) (fun z hz => (HP0.out z hz).2)).trans (Keeps.below hBq) fun z hz h => by have := hK5.size; have : w3.heap.size ≤ w4.heap.size := hs4; have := HZA.out; omega)
        clear hD4 hD5 hR5 hF5 hK4 hK5 hq5 hBq
        go_wp2_with fail
        go_meet
        exact HMID.out
    · have e1 : (x.kind == 1) = false := by simpa using hk1
      clear hk1
      by_cases hk2 : x.kind = 2
      · have e2 : (x.kind == 2) = true := by simpa using hk2
        clear hk2
        have HFL := Lib.hid (in_flush HD1.out)
        go_wp2_with fail
        (with_reducible refine HFL.out.mono ?_)
        rintro e w2 ⟨rfl, hD2, hK2⟩
        have hR2 := HR1.out.keeps hK2 (fun z hz hf => hf.2 (HQ1.out z (HFR.out z hz).1))
        have hcq : ∀ j, w2.cell? ⟨q, j, none⟩ = w1.cell? ⟨q, j, none⟩ := fun j => World.cell?_of_block (hK2.block q hqw (fun hf => hf.2 HQq.out))
        have HRF := Lib.hid (rflush_any w2 hR2)
        have HD2 := Lib.hid hD2
        have HR2 := Lib.hid hR2
        have HCQ := Lib.hid hcq
        have hs2 := hK2.size
        have HK2 := Lib.hid hK2
        clear hD2 hR2 hcq hK2 HFL
        go_wp2_with fail
        (with_reducible refine HRF.out.mono ?_)
        rintro e w3 ⟨rfl, F', s', n', t', hR3, hF', hK3⟩
        have hnq : ¬ Fr q := fun hf => by have := HNF.out q hf; have := HQE.out; omega
        have hcq3 : ∀ j, w3.cell? ⟨q, j, none⟩ = w1.cell? ⟨q, j, none⟩ := fun j => (World.cell?_of_block (hK3.block q (by omega) hnq)).trans (HCQ.out j)
        have hD3 := HD2.out.beside hK3 (fun z hz => ⟨HQ1.out z (HFR.out z hz).1, (HFR.out z hz).2⟩) hF' hR3.low
        have HMID : Hid (Mid2 W P0 w w1 d r q M w3) := Mid2.of hD3 hR3 (fun z hz => by rcases hF' z hz with h | h; exact (HFR.out z h).2; omega) (sim_flush hSim.out) (by show M.writes ≤ _; omega) hcq3 (fun z hz => .inr hz) (fun z hz => ⟨.inl (HQ1.out z (HP0.out z hz).1), fun hf => by rcases hF' z hf with h | h; exact (HP0.out z hz).2 h; have := HD.out.low z (HP0.out z hz).1; have := HZA.out; omega⟩) (far2 hWw HBA.out HK2.out hK3 (fun z hz => HQ1.out z (HP0.out z hz).1) (fun z hz => (HFR.out z hz).2) (fun z hz => (HP0.out z hz).2))
        clear hD3 hR3 hcq3 hF' hK3 HRF
        go_wp2_with fail
        go_meet
        exact HMID.out
      · have e2 : (x.kind == 2) = false := by simpa using hk2
        clear hk2
        have HCR := Lib.hid (in_crash HD1.out x.keep ka kn kc x.torn x.cut (HKR.out.below HBA.out (Nat.le_refl _)) (fun b hb => (HSP.out b hb).imp id (fun h => HQ1.out b (HP0.out b h).1)))
        go_wp2_with fail
        (with_reducible refine HCR.out.mono ?_)
        rintro e w2 ⟨rfl, hD2, hK2⟩
        have hR2 := HR1.out.keeps hK2 (fun z hz hf => hf.2 (HQ1.out z (HFR.out z hz).1))
        have hcq : ∀ j, w2.cell? ⟨q, j, none⟩ = w1.cell? ⟨q, j, none⟩ := fun j => World.cell?_of_block (hK2.block q hqw (fun hf => hf.2 HQq.out))
        have d3 := (hcq 3).trans c3
        have d4 := (hcq 4).trans c4
        have d5 := (hcq 5).trans c5
        have hk2r := (HKR.out.below HBA.out (Nat.le_refl _)).keeps hK2 (fun b hb hf => by rcases HSP.out b hb with h | h; have := hf.1; omega; exact hf.2 (HQ1.out b (HP0.out b h).1))
        have HRF := Lib.hid (rcrash_any hSim.out x.keep ka kn kc x.torn x.cut w2 hR2 hk2r (fun b hb hf => by rcases HSP.out b hb with h | h; have := (HFR.out b hf).2; omega; exact (HP0.out b h).2 hf))
        have HD2 := Lib.hid hD2
        have HR2 := Lib.hid hR2
        have HCQ := Lib.hid hcq
        have hs2 := hK2.size
        have HK2 := Lib.hid hK2
        clear hD2 hR2 hcq hK2 HCR hk2r
        go_wp2_with fail
        (with_reducible refine HRF.out.mono ?_)
        rintro e w3 ⟨rfl, F', s', n', t', hR3, hF', hK3⟩
        have hnq : ¬ Fr q := fun hf => by have := HNF.out q hf; have := HQE.out; omega
        have hcq3 : ∀ j, w3.cell? ⟨q, j, none⟩ = w1.cell? ⟨q, j, none⟩ := fun j => (World.cell?_of_block (hK3.block q (by omega) hnq)).trans (HCQ.out j)
        have hD3 := HD2.out.beside hK3 (fun z hz => ⟨HQ1.out z (HFR.out z hz).1, (HFR.out z hz).2⟩) hF' hR3.low
        have HMID : Hid (Mid2 W P0 w w1 d r q M w3) := Mid2.of hD3 hR3 (fun z hz => by rcases hF' z hz with h | h; exact (HFR.out z h).2; omega) (sim_crash hSim.out x.keep x.torn x.cut) (by show M.writes ≤ _; omega) hcq3 (fun z hz => .inr hz) (fun z hz => ⟨.inl (HQ1.out z (HP0.out z hz).1), fun hf => by rcases hF' z hf with h | h; exact (HP0.out z hz).2 h; have := HD.out.low z (HP0.out z hz).1; have := HZA.out; omega⟩) (far2 hWw HBA.out HK2.out hK3 (fun z hz => HQ1.out z (HP0.out z hz).1) (fun z hz => (HFR.out z hz).2) (fun z hz => (HP0.out z hz).2))
        clear hD3 hR3 hcq3 hF' hK3 HRF
        go_wp2_with fail
        go_meet
        exact HMID.out
  case rest =>
    obtain ⟨Q2, M2, ⟨sb2, mb2, s2, n2, t2, Fr2, R2, hD2, hR2, hF2, hS2, hP2⟩, hw2, hcq, hKM⟩ := hcut
    have HKM := Lib.hid hKM
    clear hKM
    obtain ⟨w2, rfl⟩ : ∃ w2 : World, w2 = wc := ⟨_, rfl⟩
    have hSim2 := hS2.full hD2 hR2
    have d1 := (hcq 1).trans c1
    obtain ⟨hr1, hr2⟩ := sim_read hSim2 x.i
    have HRD := Lib.hid (in_read hD2 x.i)
    have HS2 := Lib.hid hSim2
    have HD2 := Lib.hid hD2
    have HR2 := Lib.hid hR2
    have HE1 := Lib.hid hr1
    have HE2 := Lib.hid hr2
    have hrw2 : r < w2.heap.size := hR2.low _ hR2.own.1
    clear hr1 hr2 hD2 hR2 hS2 hSim2 hcq c0 c1 c2 c3 c4 c5
    go_wp2_with fail
    (with_reducible refine HRD.out.mono ?_)
    clear HRD
    rintro e w3 ⟨a3, k3, rfl, hrow3, hB3, _⟩
    have hs3 := hB3.size
    have HRR := rread_any x.i w3 (HR2.out.below hB3 (Nat.le_refl _))
    rw [← HE1.out, ← HE2.out] at HRR
    have HRR := Lib.hid HRR
    have HR3 := Lib.hid hrow3
    have d1' : w3.cell? ⟨q, 1, none⟩ = some (.int .i64 x.i) := (hB3.cell (p := ⟨q, 1, none⟩) (World.block_lt_of_cell? w2 _ d1)).trans d1
    clear hrow3 d1
    generalize hrl : readM M2 x.i = rl at HRR HR3 ⊢
    generalize hre : readE M2 x.i = re at HRR ⊢
    clear hrl hre
    go_wp2_with fail
    (with_reducible refine HRR.out.mono ?_)
    rintro e w4 ⟨a4, n4, k4, rfl, hrow4, rfl⟩
    have hcv3 : (convert 22 9 (.slice a3 rl.length k3)).run Try.prog w3 = .ok (.string (strOf rl)) w3 := conv_row HR3.out
    have hcv4 : (convert 22 9 (.slice a4 n4 k4)).run Try.prog w3 = .ok (.string (strOf rl)) w3 := conv_row hrow4
    have hree : (re != re) = false := by simp
    clear hrow4 HRR HR3
    obtain ⟨q0, q1, q2, q3⟩ := ref_cells (HR2.out.below hB3 (Nat.le_refl _))
    go_wp2_with fail
    clear hcv3 hcv4 hree d1'
    have hrw3 : r < w3.heap.size := by omega
    obtain ⟨i0, hi, hz0, hz1, hz2⟩ := info_parts infoInt
    go_loopw [13, 14] (fun v i wr => ∃ (k : Nat) (A : Option Addr) (c : Nat), i = .int .i64 k ∧ k ≤ 64 ∧ v = .slice A (gather M2 k).length c ∧ Hid (wr.ownsRow w3.heap.size 3 1 (.slice A (gather M2 k).length c) (gather M2 k).length ((gather M2 k).map (Value.int .i64))) ∧ Below w3.heap.size w3 wr) (fun _ i _ => 64 - (intOf i).toNat)
    case atStart => exact ⟨0, none, 0, rfl, by omega, rfl, World.ownsRow_nil _ _ _ _, Below.refl _ _⟩
    case round =>
      obtain ⟨k, A, c, rfl, hk64, rfl, hown, hB⟩ := hrel
      have hsr := hB.size
      have p2 : wr.cell? ⟨r, 2, none⟩ = some (.slice (some ⟨t2, 0, none⟩) 64 64) := (hB.cell (p := ⟨r, 2, none⟩) hrw3).trans q2
      have p3 : wr.cell? ⟨r, 3, none⟩ = some (.int .i64 R2.writes) := (hB.cell (p := ⟨r, 3, none⟩) hrw3).trans q3
      have hgl := gather_len M2 k
      by_cases hlt : k < 64
      · have j0 : (0 : Int) ≤ (k : Int) := by omega
        have j1 : (k : Int) < 64 := by omega
        have htw : t2 < w3.heap.size := by have := HR2.out.low _ HR2.out.own.2.2.2; omega
        have hdc : wr.cell? ⟨t2, k, none⟩ = some (.bool ((dkeys M2).contains (k : Int))) := by
          rw [(bcell hB).1 _ _ htw, (bcell hB3).1 _ _ (HR2.out.low _ HR2.out.own.2.2.2)]
          have := HR2.out.dirty
          simp only [World.cell?, this]
          rw [HS2.out.dirty]
          simp [hlt]
        have hgs := gather_succ M2 k
        generalize hgk : gather M2 k = gk at hown hgl hgs ⊢
        have hgm : gk.length + 1 ≤ maxLen := by unfold maxLen; omega
        clear hgk
        cases hcc : (dkeys M2).contains (k : Int) with
        | true =>
          rw [hcc] at hdc hgs
          have HGS := Lib.hid hgs
          clear hgs hcc
          go_wp2_with (first | (at_builtin; refine wpList_append_row rfl _ _ 31 rfl w3.heap.size 3 i0 (.int .i64 0) 8 Try.underlying31 hi hz0 hz1 hz2 rfl (.slice A gk.length c) gk.length (gk.map (Value.int .i64)) rfl (hown.out.alloc _) (some ⟨wr.heap.size, 0, none⟩) 1 1 [.int .i64 (k : Int)] rfl (one_row _ _) (by simp [Value.oneCell']) hgm (by omega) (by simp; omega) ?_; intro A3 c3 w5 hown3 hgrow3 hnil3 hat3; have HO3 := Lib.hid hown3; clear hown3 hnil3 hat3))
          go_roundw
          case rel =>
            have hgl2 : (gather M2 (k + 1)).length = gk.length + 1 := by rw [HGS.out]; simp
            refine ⟨k + 1, A3, c3, by go_num, by omega, by rw [hgl2], ?_, (hB.alloc (by omega) _).grown hgrow3 (by simp; omega) (own_block_ge hown.out)⟩
            show World.ownsRow _ _ _ _ _ _ _
            rw [hgl2, HGS.out, if_pos rfl, List.map_append]
            exact HO3.out
          case measure => simp [intOf]; omega
        | false =>
          rw [hcc] at hdc hgs
          have HGS := Lib.hid hgs
          clear hgs hcc
          go_wp2
          go_roundw
          case rel =>
            have hge : gather M2 (k + 1) = gk := by rw [HGS.out]; simp
            exact ⟨k + 1, A, c, by go_num, by omega, by rw [hge], by rw [hge]; exact hown, hB⟩
          case measure => simp [intOf]; omega
      · obtain rfl : k = 64 := by omega
        have hga := gather_all HS2.out
        obtain ⟨_, hrow⟩ := RowAt.of_own hown.out
        rw [hga] at hrow ⊢
        have HROW := Lib.hid hrow
        have hB23 := hB3.trans (hB.mono hs3)
        have HDr := Lib.hid (HD2.out.grow hB23)
        have hww := HS2.out.writes
        have HW := Lib.hid hww
        have hwe : (R2.writes == R2.writes) = true := by simp
        have HDI := Lib.hid (in_dirty (HDr.out.grow (Below.refl _ _).drew) _ _ rfl rfl)
        have hrr : r < wr.heap.size := by omega
        clear hga hrow hown hww q0 q1 q2 q3
        generalize hnk : (dkeys M2).length = nk at HROW HDI ⊢
        clear hnk
        go_wp2_with fail
        go_region_held3 (fun w' => w'.cell? ⟨r, 3, none⟩ = some (.int .i64 R2.writes)) ((first | exact p3 | exact (hB5.cell (p := ⟨r, 3, none⟩) hrr).trans p3)) ((first | (go_at_call 15; refine HDI.out.mono ?_; rintro e w5 ⟨a5, k5, rfl, hrow5, hB5⟩) | (go_at_call 14; refine (sameI_yes a5 A nk k5 c (dkeys M2) w5 hrow5 ((HROW.out.below (Below.refl _ _).drew (Nat.le_refl _)).below hB5 (Nat.le_refl _))).mono ?_; rintro e w6 ⟨rfl, qq, rfl⟩) | (go_at_call 18; refine (in_writes ((HDr.out.grow (Below.refl _ _).drew).grow (below_drewq hB5 qq)) R2.writes HW.out.symm).mono ?_; rintro e w7 ⟨rfl, rfl⟩)))
        have hBf : Below wr.heap.size wr (w5.drewN qq) := below_drewq ((Below.refl _ _).drew.trans hB5) qq
        clear hB5 hrow5
        go_wp2
        go_ret
        exact ⟨rfl, Q2, M2, ⟨sb2, mb2, s2, n2, t2, Fr2, R2, HDr.out.grow hBf, (HR2.out.below hB23 (Nat.le_refl _)).below hBf (Nat.le_refl _), hF2, HS2.out.c, hP2⟩, hw2, HKM.out.trans (Keeps.below (hB23.trans (hBf.mono (by have := hB.size; omega)))) fun z hz h => by have := HKM.out.size; omega⟩
end Go.Proofs.Ytkdomgiabiedlaa
