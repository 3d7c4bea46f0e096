/- StateKept: the walk. -/
import Derived.Test.YtpgklnhkfgbpgaaGreatDoorM41
import Derived.Test.YtpgklnhkfgbpgaaGreatDoorM44
import Derived.Test.YtpgklnhkfgbpgaaGreatDoorM49
import Derived.Test.YtpgklnhkfgbpgaaGreatDoorM51
import Derived.Test.YtpgklnhkfgbpgaaGreatDoorM46
namespace Go.Proofs.YtpgklnhkfgbpgaaGreatDoor.stateKept
open Go.ChangeShapes Go.WideShapes Go.ChangeAt Go.RowKit
set_option linter.unusedVariables false
set_option linter.unusedSimpArgs false

set_option maxRecDepth 100000 in
theorem open_arg {H : Type} {enc : TypeId × Value → H} {W : World} {base : Nat} {v0 : Value} {d0 : DataW H} {p0 : List MemPlace} (h0 : DataW.Trod enc Tryz.prog W 0 (fun _ => true) true 23 v0 d0 p0) (l0 : ∀ x ∈ p0, x.block < W.heap.size) (o0 : Value.okWide Tryz.prog W .any base 23 v0) (hw : ∀ n ∈ d0.weights Tryz.prog 23, n ≤ reachBytes) :
    ∃ a len cap, v0 = .slice a len cap ∧ len ≤ cap ∧ OpsAt W a len := by
  obtain ⟨a0, len, cap, rfl⟩ := okWide_slice Tryz.underlying23 o0
  obtain ⟨fuel, hf⟩ := h0
  exact open_ops hf l0 hw
theorem _root_.Go.Proofs.YtpgklnhkfgbpgaaGreatDoor.TreeO.in_ {o : Mark} {i : Nat} {w : World} {p : Nat} {T : TrM} (h : TreeO o i w p T) (hT : OkM T) : TreeIn { w with heap := #[] } (fun _ => False) w p T := by
  obtain ⟨g, D, mb, ib, nb, hA, hg, hD⟩ := h
  exact ⟨⟨g, D, mb, ib, nb, hA, fun b _ => ⟨Nat.zero_le _, id⟩⟩, hT, ⟨rfl, rfl, rfl, Nat.zero_le _, fun k hk => absurd hk (Nat.not_lt_zero k)⟩, fun x h => h.elim⟩
theorem kp_node {o : Mark} {w : World} {q : Nat} {T : TrM} (h : TreeO o 0 w q T) {x : ItM} (hx : aget (1 : Int) T = some x) :
    Calls Tryz.prog 31 #[ptr q, .int .i64 1] w fun e w' => e = .returned (.tuple #[.agg #[.int .i64 1, .int .i64 x.kind, .int .i64 x.links, .int .i64 x.b.length, .int .u64 x.til, .bool x.closed], .bool true]) ∧ Below w.heap.size w w' := by
  obtain ⟨g, D, mb, ib, nb, hA, hg, hD⟩ := h
  refine (node_any 1 w hA (by decide)).mono ?_
  rintro e w' ⟨rfl, hb⟩
  refine ⟨?_, hb⟩
  unfold nodeM
  rw [hx]
  rfl
theorem kp_read {o : Mark} {w : World} {q : Nat} {T : TrM} (h : TreeO o 0 w q T) (hT : OkM T) {x : ItM} (hx : aget (1 : Int) T = some x) (hk : x.kind = 1) :
    Calls Tryz.prog 33 #[ptr q, .int .i64 1, .int .i64 0, .int .i64 4096] w (RetPart w x.b 0) := by
  obtain ⟨g, D, mb, ib, nb, hA, hg, hD⟩ := h
  have hl := (hT.each 1 x hx).size
  have e1 : readB T 1 0 4096 = x.b := by
    unfold readB
    rw [hx]
    dsimp only
    rw [if_neg (by omega)]
    unfold partB
    rw [if_neg (by omega)]
    rw [show (0 : Int).toNat = 0 from rfl, List.drop_zero, List.take_of_length_le (by show x.b.length ≤ 4096; exact hl)]
  have e2 : readE T 1 0 4096 = 0 := by
    unfold readE
    rw [hx]
    dsimp only
    rw [if_neg (by omega)]
    rfl
  have := read_any 1 0 4096 w hA (fun x hx => (hT.each 1 x hx).size) (by decide) (by decide) (by decide)
  rw [e1, e2] at this
  exact this
def KRel (W : World) (d : List UInt8) (p : Nat) (lv iv : Value) (wr : World) : Prop := ∃ (k : Nat) (o : Mark) (M : StM) (x : ItM), iv = .int .i64 k ∧ k ≤ 60 ∧ lv = .int .u64 x.til ∧ StW W o 1 wr p (10 + k) M ∧ aget (1 : Int) M.t = some x ∧ x.kind = 1 ∧ x.closed = true ∧ x.b = d
set_option maxRecDepth 100000 in
set_option maxHeartbeats 64000000 in
theorem walk {H : Type} {enc : TypeId × Value → H} (W : World) (base : Nat) (hsh : W.ShapedOpen Tryz.prog) (v0 : Value) (d0 : DataW H) (p0 : List MemPlace) (o0 : Value.okWide Tryz.prog W .any base 23 v0) (h0 : DataW.Trod enc Tryz.prog W 0 (fun _ => true) true 23 v0 d0 p0) (l0 : ∀ x ∈ p0, x.block < W.heap.size) (v1 : Value) (d1 : DataW H) (p1 : List MemPlace) (o1 : Value.okWide Tryz.prog W .any base 22 v1) (h1 : DataW.Trod enc Tryz.prog W 0 (fun _ => true) true 22 v1 d1 p1) (l1 : ∀ x ∈ p1, x.block < W.heap.size) (a2 : Int) (w2 : (Lit.int .u64 a2).wf = true) (hsz : (DataW.weightsEach Tryz.prog [23, 22, 29] ([d0, d1, .lit (.int .u64 a2)] : List (DataW H))).all (· ≤ reachBytes) = true) :
    Calls Tryz.prog 11 #[v0, v1, .int .u64 a2] W (Fine W) := by
  obtain ⟨m, hm, -⟩ := maxLen_cell hsh
  obtain ⟨da, dn, dc, bs, rfl, hdc, hda⟩ : ∃ a len cap bs, v1 = .slice a len cap ∧ len ≤ cap ∧ RowAt (Old W) W a len ((bs : List UInt8).map bv) := by
    obtain ⟨a0, len, cap, rfl⟩ := okWide_slice Tryz.underlying22 o1
    obtain ⟨fuel, hf⟩ := h1
    exact open_bytesT hf l1
  obtain ⟨a, len, cap, rfl, hlc, hops⟩ := open_arg h0 l0 o0 (fun n hn => by
    rw [List.all_eq_true] at hsz
    exact of_decide_eq_true (hsz n (weightsEach_at (j := 0) rfl rfl n hn)))
  have hlm := hops.1
  unfold maxLen at hlm
  have HM := Lib.hid hm
  have HO := Lib.hid hops
  have b2 := (u64_of_wfO w2).1
  obtain ⟨u, hu⟩ : ∃ u, u = a2 % 15 := ⟨_, rfl⟩
  have hu1 : a2.tmod 15 = u := by rw [hu]; exact Int.tmod_eq_emod_of_nonneg b2
  have bu : 0 ≤ u ∧ u < 15 := by omega
  have hu2 := hu.symm
  obtain ⟨d, hd⟩ : ∃ d, d = bs.take 300 := ⟨_, rfl⟩
  have hdl : min dn 300 = d.length := by rw [hd, List.length_take, show bs.length = dn by simpa using hda.length, Nat.min_comm]
  have HDA : Hid (RowAt (Old W) W da d.length (d.map bv)) := by
    have := hda.take 300
    rw [hdl, ← List.map_take, ← hd] at this
    exact this
  have hd5 : d.length ≤ 300 := by omega
  have HCUT : Hid (∀ w : World, Calls Tryz.prog 13 #[.slice da dn dc, .int .i64 300] w fun e w' => e = .returned (.slice da d.length dc) ∧ w = w') := fun w => by
    have := cut_any da dn dc 300 hdc (by omega) hda.small w
    rw [hdl] at this
    exact this
  have hfl := field_er
  clear hm hops o0 h0 l0 o1 h1 l1 hsz hsh w2 hda hdl hd hdc hu
  go_enter Tryz.func11, Tryz.ntmps11
  go_wp2_with fail
  (with_reducible refine (st_new (i := 1) (marks0 W) (by omega)).mono ?_)
  rintro e w1 ⟨ps, o1, rfl, hs1, hS1⟩
  have HS1 := Lib.hid hS1
  clear hs1 hS1
  go_wp2_with fail
  (with_reducible refine (HCUT.out _).mono ?_)
  rintro e _ ⟨rfl, rfl⟩
  clear HCUT
  have HC2 := Lib.hid (st_doE0 HS1.out (by omega) (by omega) k14a (k14_ok _ (by simp)) m HM.out (opA 1 ⟨#[47, 97]⟩ ⟨#[]⟩ 0 0 0 0 0 none 0 0) rfl rfl do_create)
  go_wp2_with fail
  (with_reducible refine HC2.out.mono ?_)
  rintro e w2 ⟨o2, ⟨y2, rfl, da2, la2, dc2, lc2, rfl, p1, p2, p3, p4⟩, hs2, hS2⟩
  have HS2 := Lib.hid hS2
  have HR2 := Lib.hid (And.intro p1 (And.intro p2 (And.intro p3 p4)))
  clear hs2 hS2 p1 p2 p3 p4 HC2 HS1
  unfold reC
  try unfold noM
  have HC3 := Lib.hid (st_doE HS2.out (by omega) (by omega) (wrO d) (wrO_ok d (by omega)) da dc (HDA.out.below HS2.out.below (Nat.le_refl _)) m HM.out (opA 5 ⟨#[]⟩ ⟨#[]⟩ 0 0 0 0 0 da d.length dc) rfl (do_write d (by omega)))
  go_wp2_with fail
  (with_reducible refine HC3.out.mono ?_)
  rintro e w3 ⟨o3, ⟨y3, rfl, da3, la3, dc3, lc3, rfl, p1, p2, p3, p4⟩, hs3, hS3⟩
  have HS3 := Lib.hid hS3
  have HR3 := Lib.hid (And.intro p1 (And.intro p2 (And.intro p3 p4)))
  clear hs3 hS3 p1 p2 p3 p4 HC3 HS2
  unfold reC
  try unfold noM
  have HC4 := Lib.hid (st_doE0 HS3.out (by omega) (by omega) (clO u) (clO_ok u (by omega)) m HM.out (opA 6 ⟨#[]⟩ ⟨#[]⟩ 0 0 0 u 0 none 0 0) rfl rfl (do_close d u (by omega)))
  go_wp2_with fail
  (with_reducible refine HC4.out.mono ?_)
  rintro e w4 ⟨o4, ⟨y4, rfl, da4, la4, dc4, lc4, rfl, p1, p2, p3, p4⟩, hs4, hS4⟩
  have HS4 := Lib.hid hS4
  have HR4 := Lib.hid (And.intro p1 (And.intro p2 (And.intro p3 p4)))
  clear hs4 hS4 p1 p2 p3 p4 HC4 HS3
  unfold reC
  try unfold noM
  go_wp2_with fail
  go_loopw [8, 9, 10, 11, 12, 13, 14, 15] (fun lv iv _ _ _ _ _ _ wr => KRel W d ps lv iv wr) (fun _ iv _ _ _ _ _ _ _ => 60 - (intOf iv).toNat)
  case atStart => exact ⟨0, _, _, ⟨1, 1, u, true, d, []⟩, rfl, by omega, rfl, HS4.out.mono (by omega), rfl, rfl, rfl, rfl⟩
  case round =>
    obtain ⟨k, o2, M, x, rfl, hk, rfl, hS, hx, hx1, hx2, hx3⟩ := hrel
    have HS := Lib.hid hS
    have HX1 := Lib.hid (And.intro hx (And.intro hx1 (And.intro hx2 hx3)))
    have hbW := hS.below
    clear hS hx hx1 hx2 hx3 HS4
    by_cases hlt : k < len
    · by_cases h60 : k < 60
      · obtain ⟨b, off, rfl, hbl, hat⟩ := HO.out.2 (by omega)
        obtain ⟨z, xa, xc, hz⟩ := hat k hlt
        obtain ⟨d0, d1, d2, d3, d4, d5, d6, d7, d8⟩ := hz.up hbW hbl
        have HX := Lib.hid hz
        have hd1 : decide ((k : Int) < (len : Int)) = true := by simp; omega
        have hd2 : decide ((k : Int) < 60) = true := by simp; omega
        have i0 : (0 : Int) ≤ (k : Int) := by omega
        have i1 : (k : Int) < (len : Int) := by omega
        have HT := Lib.hid (tame_any wr z hz.ok xa xc hz.cap (hz.row.below hbW (Nat.le_refl _)))
        unfold opC at HT
        clear hz hat
        go_wp2_with fail
        (with_reducible refine HT.out.mono ?_)
        rintro e w2 ⟨y, yc, rfl, hty, hcap, hrow, hb2⟩
        have HYOK := Lib.hid (hty.ok HX.out.ok)
        have HS2 := Lib.hid (HS.out.grow hb2)
        obtain ⟨R, M2, he⟩ : ∃ R M2, sdoM M y = (R, M2) := ⟨_, _, rfl⟩
        have hnow := (sdo_chg M y).now.1
        have hkp := sdo_kp HS2.out.ok y
        rw [he] at hnow hkp
        have HKP := Lib.hid hkp
        have HC := Lib.hid (st_doE HS2.out (by omega) (by omega) y HYOK.out xa yc hrow m HM.out (.agg (opC y xa yc)) rfl he)
        clear hty hcap hrow hb2 HT HS d0 d1 d2 d3 d4 d5 d6 d7 d8 hbW he hkp
        go_wp2_with fail
        (with_reducible refine HC.out.mono ?_)
        rintro e w5 ⟨o5, ⟨v5, rfl, da5, la5, dc5, lc5, rfl, -, -, -, -⟩, hs5, hS5⟩
        have HS5 := Lib.hid hS5
        clear hs5 hS5 HC HS2
        go_wp2_with fail
        (with_reducible refine (stw_now HS5.out).mono ?_)
        rintro e w6 ⟨rfl, hb6⟩
        have HS6 := Lib.hid (HS5.out.grow hb6)
        clear hb6 HS5
        by_cases hge : x.til ≤ M2.now
        · have hg : decide (x.til ≤ M2.now) = true := by simpa using hge
          have hbW := HS6.out.below
          have hmr : w6.cell? ⟨0, 0, none⟩ = some (.int .i64 m) := (hbW.cell (p := ⟨0, 0, none⟩) (World.block_lt_of_cell? W _ HM.out)).trans HM.out
          have HK := Lib.hid (known14_any w6 m hmr)
          clear hmr
          go_wp2_with fail
          (with_reducible refine HK.out.mono ?_)
          rintro e w99 ⟨rfl, hb2⟩
          go_wp2_with fail
          go_ret
          exact ⟨rfl, hbW.trans (hb2.mono hbW.size)⟩
        · have hg : decide (x.til ≤ M2.now) = false := by simpa using hge
          obtain ⟨x', hx', e1, e2, e3, e4⟩ := HKP.out 1 x HX1.out.1 HX1.out.2.1 HX1.out.2.2.1 (by omega)
          have hT2 := HS6.out.ok.t
          have hTM : OkM M2.t := hT2.1
          go_wp2_with fail
          (with_reducible refine (stree_any HS6.out.st HS6.out.marks hTM).mono ?_)
          rintro e w7 ⟨q, rfl, hq, hb7⟩
          have HQ7 := Lib.hid hq
          have HS7 := Lib.hid (HS6.out.grow hb7)
          have HX2 := Lib.hid (And.intro hx' (And.intro e1 (And.intro e2 (e4.trans HX1.out.2.2.2))))
          have HT2 := Lib.hid hT2
          have HTM := Lib.hid hTM
          have hlt2 : decide (x'.til < x.til) = false := by simpa using e3
          have hll := allP_links hT2 hx'
          have hl1 : 1 ≤ x'.links := by
            have h9 := (hTM.each 1 x' hx').links.1
            have h8 : x'.links ≠ 0 := fun e => by
              have := (hTM.each 1 x' hx').gone e
              rw [e2] at this
              cases this
            omega
          clear hq hb7 HS6 hx' e1 e4 HX1 hge hg hT2 hTM hnow HKP
          have HND := Lib.hid (kp_node HQ7.out HX2.out.1)
          rw [e2] at HND
          clear e2
          go_wp2_with fail
          (with_reducible refine HND.out.mono ?_)
          rintro e w8 ⟨rfl, hb8⟩
          have HQ8 := Lib.hid (HQ7.out.grow hb8)
          have HS8 := Lib.hid (HS7.out.grow hb8)
          clear hb8 HND HQ7 HS7
          go_wp2_with fail
          have HF9 := Lib.hid (Froz.new HS8.out.marks (.cells #[.int .i64 1, .int .i64 x'.kind, .int .i64 x'.links, .int .i64 x'.b.length, .int .u64 x'.til, .bool true] 31 (0, 0)))
          have hb9 := wall w8 (.cells #[.int .i64 1, .int .i64 x'.kind, .int .i64 x'.links, .int .i64 x'.b.length, .int .u64 x'.til, .bool true] 31)
          have HQ9 := Lib.hid (HQ8.out.grow hb9)
          have HS9 := Lib.hid (HS8.out.grow hb9)
          clear hb9 HQ8 HS8
          (with_reducible refine (in_names (HQ9.out.in_ HTM.out) HT2.out 1).mono ?_)
          rintro e wa ⟨na, nc, vals, nl, rfl, hnc, hperm, -, -, hba⟩
          have hL0 := hperm.length_eq
          obtain ⟨L, hL⟩ : ∃ L, L = nl.length := ⟨_, rfl⟩
          rw [← hL] at hL0 ⊢
          have hL1 : decide ((L : Int) < 1) = false := by simp; omega
          have hL2 : (x'.links != (L : Int)) = false := by simp; omega
          have HQA := Lib.hid (HQ9.out.grow hba)
          have HSA := Lib.hid (HS9.out.grow hba)
          have HFA := Lib.hid (HF9.out.grow HS9.out.marks hba)
          clear hnc hperm hba hL HQ9 HS9 HF9 hll hL0
          go_wp2_with fail
          (with_reducible refine (kp_read HQA.out HTM.out HX2.out.1 HX2.out.2.1).mono ?_)
          rintro e wb ⟨ra, rn, rc, rfl, hrc, hrr, hbb⟩
          rw [HX2.out.2.2.2] at hrr
          have hcv := conv_row (c := rc) hrr
          have HSB := Lib.hid (HSA.out.grow hbb)
          have HFB := Lib.hid (HFA.out.grow HSA.out.marks hbb)
          have hcd := conv_row (c := dc) (HDA.out.below HSB.out.below (Nat.le_refl _))
          have hat := HFB.out.at_
          have n2 : wb.cell? ⟨w8.heap.size, 2, none⟩ = some (.int .i64 x'.links) := by simp [World.cell?, hat]
          have n4 : wb.cell? ⟨w8.heap.size, 4, none⟩ = some (.int .u64 x'.til) := by simp [World.cell?, hat]
          have n5 : wb.cell? ⟨w8.heap.size, 5, none⟩ = some (.bool true) := by simp [World.cell?, hat]
          clear hrc hrr hbb HQA HSA HFA hat
          go_wp2_with fail
          go_roundw
          case rel => exact ⟨k + 1, _, M2, x', by go_num, by omega, rfl, HSB.out.mono (by omega), HX2.out.1, HX2.out.2.1, HX2.out.2.2.1, HX2.out.2.2.2⟩
          case measure => simp [intOf]; omega
      · have hd1 : decide ((k : Int) < (len : Int)) = true := by simp; omega
        have hd2 : decide ((k : Int) < 60) = false := by simp; omega
        clear hbW
        have hbW := HS.out.below
        have hmr : wr.cell? ⟨0, 0, none⟩ = some (.int .i64 m) := (hbW.cell (p := ⟨0, 0, none⟩) (World.block_lt_of_cell? W _ HM.out)).trans HM.out
        have HK := Lib.hid (known14_any wr m hmr)
        clear hmr
        go_wp2_with fail
        (with_reducible refine HK.out.mono ?_)
        rintro e w99 ⟨rfl, hb2⟩
        go_wp2_with fail
        go_ret
        exact ⟨rfl, hbW.trans (hb2.mono hbW.size)⟩
    · have hd1 : decide ((k : Int) < (len : Int)) = false := by simp; omega
      clear hbW
      have hbW := HS.out.below
      have hmr : wr.cell? ⟨0, 0, none⟩ = some (.int .i64 m) := (hbW.cell (p := ⟨0, 0, none⟩) (World.block_lt_of_cell? W _ HM.out)).trans HM.out
      have HK := Lib.hid (known14_any wr m hmr)
      clear hmr
      go_wp2_with fail
      (with_reducible refine HK.out.mono ?_)
      rintro e w99 ⟨rfl, hb2⟩
      go_wp2_with fail
      go_ret
      exact ⟨rfl, hbW.trans (hb2.mono hbW.size)⟩
end Go.Proofs.YtpgklnhkfgbpgaaGreatDoor.stateKept
