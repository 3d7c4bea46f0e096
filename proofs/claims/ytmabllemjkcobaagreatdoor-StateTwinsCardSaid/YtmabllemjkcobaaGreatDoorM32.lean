/- package state: open. The contracts of package clock, and known of permafrostlaw8: what each call returns; the world stays as it was. The contracts of package worm's rules for one node: what each call returns; what was there stays as it was. package state: unlink. -/
import Derived.Test.YtmabllemjkcobaaGreatDoorM31
import Derived.Test.YtmabllemjkcobaaGreatDoorM01
namespace Go.Proofs.YtmabllemjkcobaaGreatDoor
open Go.ChangeShapes Go.WideShapes Go.ChangeAt Go.RowKit
set_option linter.unusedVariables false
set_option linter.unusedSimpArgs false

def openT (M : StM) (T : TrM) (ls : List Nm) : ReM × StM :=
  if (lookE T ls).2 ≠ 0 then (noM (lookE T ls).2, M) else
  match aget (lookE T ls).1 T with
  | none => (noM 25, M)
  | some y => if y.kind = 2 then (noM 22, M) else if y.closed = false then (noM 25, M) else
    (⟨0, freeI M, [], [], none⟩, M.put (freeI M).toNat (some ⟨false, 0, readB T (lookE T ls).1 0 y.b.length⟩))
def sopenM (M : StM) (ls : List Nm) (id : Int) : ReM × StM := match treeAtM M id with
  | none => (noM 29, M)
  | some T => if freeI M < 0 then (noM 25, M) else openT M T ls
section
variable {W w : World} {o : Mark} {i j k l p : Nat} {M : StM}
set_option maxRecDepth 100000 in
set_option maxHeartbeats 16000000 in
theorem sopen_any {S : Nat → Prop} (hS : StateO o i j k w p M) (hM : Marks W o w) (hk : Mk i j k l) (hok : OkM M.t) (hl8 : M.s.l.length ≤ 1000) (a : Option Addr) (n c : Nat) (ls : List Nm) (hls : StrsAt S w a n (ls.map strOf)) (id : Int) (hid : ∀ T, treeAtM M id = some T → (Lit.int .i64 (lookE T ls).1).wf = true) :
    Calls Tryz.prog 39 #[ptr p, .slice a n c, .int .i64 id] w (StRet o i j k l w p (sopenM M ls id)) := by
  have HKK := Lib.hid hk
  have HM := Lib.hid hM
  have HS := Lib.hid hS
  obtain ⟨w2, hw2⟩ : ∃ w2, w2 = w.alloc (.cells (reC (noM 0) none none 0 0) 36) := ⟨_, rfl⟩
  have hb2 : Below w.heap.size w w2 := by rw [hw2]; exact wall w _
  have hre : w2.heap[w.heap.size]? = some (.cells (reC (noM 0) none none 0 0) 36 (0, 0)) := by rw [hw2]; exact (MapKept.heap_alloc w _).1
  obtain ⟨n1, n2, n3, n4, n5, n6, n7, n8, n9, n10⟩ := hk.ne
  obtain ⟨o1, hs1, hl1, hl2⟩ := mark_new HM.out l (fun b => b = w.heap.size) (w' := w2) (fun b hb => by subst hb; exact ⟨Nat.le_refl _, (Array.getElem?_eq_some_iff.1 hre).1⟩) hb2
  have hS1 : StateO o1 i j k w2 p M := HS.out.step (fun e => n4 e.symm) n7 n9 n10 hs1
  have hM1 : Marks W o1 w2 := HM.out.step (fun e => n4 e.symm) hs1
  have HAT : Hid (Calls Tryz.prog 96 #[ptr p, .int .i64 id] (w.alloc (.cells (reC (noM 0) none none 0 0) 36)) (AtRet o1 j w2 M id)) := by rw [← hw2]; exact Lib.hid (at_any hS1 hM1 hok hl8 id)
  unfold reC noM at HAT
  dsimp only [List.length_nil] at HAT
  have HLS := Lib.hid (hls.below hb2 (Nat.le_refl _))
  have HRE := Lib.hid hre
  have HB2 := Lib.hid hb2
  have HS1 := Lib.hid hS1
  have HM1 := Lib.hid hM1
  have HL1 := Lib.hid (hl1 _ rfl)
  have HST1 := Lib.hid hs1
  have HID := Lib.hid hid
  have HEND : Hid (∀ (z : ReM) (w4 w5 : World), Below w2.heap.size w2 w4 → RowSet w4 w.heap.size (reC z none none 0 0) 36 w5 → z.data = [] → z.names = [] → StRet o i j k l w p (z, M) (.returned (.agg (reC z none none 0 0))) w5) := fun z w4 w5 hb hs hz1 hz2 => by
    have hM4 := HM1.out.step (I := fun _ => False) (fun e => e) (Step.grow HM1.out hb)
    have hst := hs.step hM4 HL1.out
    have hS4 := (HS1.out.grow HM1.out hb).step (fun e => n4 e.symm) n7 n9 n10 hst
    refine ⟨o1, ⟨_, rfl, none, none, 0, 0, rfl, by rw [hz1]; exact Nat.le_refl _, by rw [hz2]; exact Nat.le_refl _, by rw [hz1]; exact RowAt.nil _ _ _, by rw [hz2]; exact strs_nil _ _⟩, ((HST1.out.trans (Step.grow HM1.out hb)).trans hst).mono fun m hm => .inr (.inr (.inr hm)), hS4⟩
  clear hS hM hk hok hl8 hls hid hre hb2 hw2 hS1 hM1 hl1 hl2 hs1
  go_enter Tryz.func39, Tryz.ntmps39
  go_wp2_with fail
  (with_reducible refine HAT.out.mono ?_)
  rintro e w3 ⟨hb3, hat⟩
  have HB3 := Lib.hid hb3
  have HR3 := Lib.hid ((hb3.block _ (Array.getElem?_eq_some_iff.1 HRE.out).1).trans HRE.out)
  rcases hat with ⟨hT, rfl⟩ | ⟨T, q, hT, rfl, ⟨m, hTr⟩, hOk⟩
  · have HT := Lib.hid hT
    clear hT hb3
    go_wp2_with fail
    (with_reducible refine (no_any _ _).mono ?_)
    rintro e w9 ⟨rfl, hb9⟩
    unfold noV
    have HB9 := Lib.hid (HB3.out.trans (hb9.mono HB3.out.size))
    have HR9 := Lib.hid ((hb9.block _ (Array.getElem?_eq_some_iff.1 HR3.out).1).trans HR3.out)
    clear hb9
    go_wp2_with (refine wpList_store_rep (by rfl) 36 _ _ (by rfl) w.heap.size (reC (noM 29) none none 0 0) (by rfl) (by rfl) _ HR9.out repSize rfl (reC_one _ _ _ _ _) ?_; intro w10 hs10; have HS10 := Lib.hid hs10; clear hs10)
    refine ret_rep rfl rfl rfl HS10.out.1 ?_
    have e2 : sopenM M ls id = (noM 29, M) := by unfold sopenM; rw [HT.out]
    rw [e2]
    exact HEND.out _ _ _ HB9.out HS10.out rfl rfl
  · have HFR := Lib.hid (free_any (HS1.out.grow HM1.out hb3))
    obtain ⟨g, D, mb, ib, nb, hA, -, -⟩ := hTr
    have hid := HID.out T hT
    have HLK : Hid (∀ w', Below w3.heap.size w3 w' → Calls Tryz.prog 97 #[ptr q, .slice a n c] w' fun e w'' => e = .returned (.tuple #[.int .i64 (lookE T ls).1, .int .i64 (lookE T ls).2]) ∧ Below w'.heap.size w' w'') := fun w' hb => Look_at a n c ls w' (hA.below hb (Nat.le_refl _)) hOk ((HLS.out.below hb3 (Nat.le_refl _)).below hb (Nat.le_refl _))
    have HND : Hid (∀ w', Below w3.heap.size w3 w' → Calls Tryz.prog 98 #[ptr q, .int .i64 (lookE T ls).1] w' fun e w'' => e = .returned (.tuple #[nodeM T (lookE T ls).1, .bool (aget (lookE T ls).1 T).isSome]) ∧ Below w'.heap.size w' w'') := fun w' hb => node_any _ w' (hA.below hb (Nat.le_refl _)) hid
    have HRD : Hid (∀ w' (N : Int), (Lit.int .i64 N).wf = true → Below w3.heap.size w3 w' → Calls Tryz.prog 99 #[ptr q, .int .i64 (lookE T ls).1, .int .i64 0, .int .i64 N] w' (RetPart w' (readB T (lookE T ls).1 0 N) (readE T (lookE T ls).1 0 N))) := fun w' N hN hb => read_any _ 0 N w' (hA.below hb (Nat.le_refl _)) (fun x hx => (hOk.each _ x hx).size) hid (by decide) hN
    have HYL : Hid (∀ y, aget (lookE T ls).1 T = some y → y.b.length ≤ 4096) := fun y hy => (hOk.each _ y hy).size
    have HT := Lib.hid hT
    have HB33 := Lib.hid hb3
    clear hT hA hOk hid hb3
    go_wp2_with fail
    (with_reducible refine HFR.out.mono ?_)
    rintro e w4 ⟨v, rfl, hfr, rfl⟩
    have hv := hfr.eq
    rcases hfr with ⟨rfl, hfull⟩ | ⟨fm, hm8, rfl, hfm, hfl⟩
    · have HV := Lib.hid hv
      clear hv hfull
      go_wp2_with fail
      (with_reducible refine (no_any _ _).mono ?_)
      rintro e w9 ⟨rfl, hb9⟩
      unfold noV
      have HB9 := Lib.hid (HB3.out.trans (hb9.mono HB3.out.size))
      have HR9 := Lib.hid ((hb9.block _ (Array.getElem?_eq_some_iff.1 HR3.out).1).trans HR3.out)
      clear hb9
      go_wp2_with (refine wpList_store_rep (by rfl) 36 _ _ (by rfl) w.heap.size (reC (noM 25) none none 0 0) (by rfl) (by rfl) _ HR9.out repSize rfl (reC_one _ _ _ _ _) ?_; intro w10 hs10; have HS10 := Lib.hid hs10; clear hs10)
      refine ret_rep rfl rfl rfl HS10.out.1 ?_
      have e2 : sopenM M ls id = (noM 25, M) := by unfold sopenM; rw [HT.out]; exact if_pos (by rw [← HV.out]; omega)
      rw [e2]
      exact HEND.out _ _ _ HB9.out HS10.out rfl rfl
    · have HV := Lib.hid hv
      have hdn : decide ((fm : Int) < 0) = false := by simp
      have hneg : ¬ ((fm : Int) < 0) := by omega
      have HOT : Hid (sopenM M ls id = openT M T ls) := by unfold sopenM; rw [HT.out]; exact Lib.hid (if_neg (by rw [← HV.out]; omega))
      have HLK2 := Lib.hid (HLK.out w4 (Below.refl _ _))
      clear hv hfm hfl
      unfold openT at HOT
      obtain ⟨ki, hki⟩ : ∃ ki, ki = (lookE T ls).1 := ⟨_, rfl⟩
      obtain ⟨ke, hke⟩ : ∃ ke, ke = (lookE T ls).2 := ⟨_, rfl⟩
      rw [← hki, ← hke] at HLK2 HOT
      rw [← hki] at HND HRD HYL
      clear hki hke
      go_wp2_with fail
      (with_reducible refine HLK2.out.mono ?_)
      rintro e w5 ⟨rfl, hb5⟩
      have HB35 := Lib.hid hb5
      have HB5 := Lib.hid (HB3.out.trans (hb5.mono HB3.out.size))
      have HR5 := Lib.hid ((hb5.block _ (Array.getElem?_eq_some_iff.1 HR3.out).1).trans HR3.out)
      clear hb5
      by_cases hz : ke = 0
      · have HZ := Lib.hid hz
        have hz2 : (ke != 0) = false := by simpa using hz
        clear hz
        have HN := Lib.hid (HND.out _ HB35.out)
        cases ha : aget ki T with
        | none =>
          have hnm : nodeM T ki = .agg #[.int .i64 0, .int .i64 0, .int .i64 0, .int .i64 0, .int .u64 0, .bool false] := by unfold nodeM; rw [ha]
          rw [hnm] at HN
          have HA := Lib.hid ha
          clear ha hnm
          go_wp2_with fail
          (with_reducible refine HN.out.mono ?_)
          rintro e w6 ⟨rfl, hb6⟩
          have hb67 : Below w5.heap.size w5 (w6.alloc (.cells #[.int .i64 0, .int .i64 0, .int .i64 0, .int .i64 0, .int .u64 0, .bool false] 34)) := hb6.trans ((wall w6 _).mono hb6.size)
          have HB37 := Lib.hid (HB35.out.trans (hb67.mono HB35.out.size))
          have HB6 := Lib.hid (HB5.out.trans (hb67.mono HB5.out.size))
          have HR6 := Lib.hid ((hb67.block _ (Array.getElem?_eq_some_iff.1 HR5.out).1).trans HR5.out)
          clear hb67 hb6
          go_wp2_with fail
          (with_reducible refine (no_any _ _).mono ?_)
          rintro e w9 ⟨rfl, hb9⟩
          unfold noV
          have HB9 := Lib.hid (HB6.out.trans (hb9.mono HB6.out.size))
          have HR9 := Lib.hid ((hb9.block _ (Array.getElem?_eq_some_iff.1 HR6.out).1).trans HR6.out)
          clear hb9
          go_wp2_with (refine wpList_store_rep (by rfl) 36 _ _ (by rfl) w.heap.size (reC (noM 25) none none 0 0) (by rfl) (by rfl) _ HR9.out repSize rfl (reC_one _ _ _ _ _) ?_; intro w10 hs10; have HS10 := Lib.hid hs10; clear hs10)
          refine ret_rep rfl rfl rfl HS10.out.1 ?_
          have e2 : sopenM M ls id = (noM 25, M) := HOT.out.trans ((if_neg (fun h => h HZ.out)).trans (by rw [HA.out]))
          rw [e2]
          exact HEND.out _ _ _ HB9.out HS10.out rfl rfl
        | some y =>
          cases hcl : y.closed with
          | false =>
            have HCL := Lib.hid hcl
            have hnm : nodeM T ki = .agg #[.int .i64 ki, .int .i64 y.kind, .int .i64 y.links, .int .i64 y.b.length, .int .u64 y.til, .bool false] := by unfold nodeM; rw [ha]; show nodeV ki y = _; unfold nodeV; rw [hcl]
            clear hcl
            rw [hnm] at HN
            have HA := Lib.hid ha
            clear ha hnm
            go_wp2_with fail
            (with_reducible refine HN.out.mono ?_)
            rintro e w6 ⟨rfl, hb6⟩
            have hb67 : Below w5.heap.size w5 (w6.alloc (.cells #[.int .i64 ki, .int .i64 y.kind, .int .i64 y.links, .int .i64 y.b.length, .int .u64 y.til, .bool false] 34)) := hb6.trans ((wall w6 _).mono hb6.size)
            have HB37 := Lib.hid (HB35.out.trans (hb67.mono HB35.out.size))
            have HB6 := Lib.hid (HB5.out.trans (hb67.mono HB5.out.size))
            have HR6 := Lib.hid ((hb67.block _ (Array.getElem?_eq_some_iff.1 HR5.out).1).trans HR5.out)
            clear hb67 hb6
            by_cases hk : y.kind = 2
            · have HK := Lib.hid hk
              have hk2 : (y.kind == 2) = true := by simpa using hk
              clear hk
              go_wp2_with fail
              (with_reducible refine (no_any _ _).mono ?_)
              rintro e w9 ⟨rfl, hb9⟩
              unfold noV
              have HB9 := Lib.hid (HB6.out.trans (hb9.mono HB6.out.size))
              have HR9 := Lib.hid ((hb9.block _ (Array.getElem?_eq_some_iff.1 HR6.out).1).trans HR6.out)
              clear hb9
              go_wp2_with (refine wpList_store_rep (by rfl) 36 _ _ (by rfl) w.heap.size (reC (noM 22) none none 0 0) (by rfl) (by rfl) _ HR9.out repSize rfl (reC_one _ _ _ _ _) ?_; intro w10 hs10; have HS10 := Lib.hid hs10; clear hs10)
              refine ret_rep rfl rfl rfl HS10.out.1 ?_
              have e2 : sopenM M ls id = (noM 22, M) := HOT.out.trans ((if_neg (fun h => h HZ.out)).trans (by rw [HA.out]; exact if_pos HK.out))
              rw [e2]
              exact HEND.out _ _ _ HB9.out HS10.out rfl rfl
            · have HK := Lib.hid hk
              have hk2 : (y.kind == 2) = false := by simpa using hk
              clear hk
              go_wp2_with fail
              (with_reducible refine (no_any _ _).mono ?_)
              rintro e w9 ⟨rfl, hb9⟩
              unfold noV
              have HB9 := Lib.hid (HB6.out.trans (hb9.mono HB6.out.size))
              have HR9 := Lib.hid ((hb9.block _ (Array.getElem?_eq_some_iff.1 HR6.out).1).trans HR6.out)
              clear hb9
              go_wp2_with (refine wpList_store_rep (by rfl) 36 _ _ (by rfl) w.heap.size (reC (noM 25) none none 0 0) (by rfl) (by rfl) _ HR9.out repSize rfl (reC_one _ _ _ _ _) ?_; intro w10 hs10; have HS10 := Lib.hid hs10; clear hs10)
              refine ret_rep rfl rfl rfl HS10.out.1 ?_
              have e2 : sopenM M ls id = (noM 25, M) := HOT.out.trans ((if_neg (fun h => h HZ.out)).trans (by rw [HA.out]; exact (if_neg HK.out).trans (if_pos HCL.out)))
              rw [e2]
              exact HEND.out _ _ _ HB9.out HS10.out rfl rfl
          | true =>
            have HCL := Lib.hid hcl
            have hnm : nodeM T ki = .agg #[.int .i64 ki, .int .i64 y.kind, .int .i64 y.links, .int .i64 y.b.length, .int .u64 y.til, .bool true] := by unfold nodeM; rw [ha]; show nodeV ki y = _; unfold nodeV; rw [hcl]
            clear hcl
            rw [hnm] at HN
            have HA := Lib.hid ha
            clear ha hnm
            go_wp2_with fail
            (with_reducible refine HN.out.mono ?_)
            rintro e w6 ⟨rfl, hb6⟩
            have hb67 : Below w5.heap.size w5 (w6.alloc (.cells #[.int .i64 ki, .int .i64 y.kind, .int .i64 y.links, .int .i64 y.b.length, .int .u64 y.til, .bool true] 34)) := hb6.trans ((wall w6 _).mono hb6.size)
            have HB37 := Lib.hid (HB35.out.trans (hb67.mono HB35.out.size))
            have HB6 := Lib.hid (HB5.out.trans (hb67.mono HB5.out.size))
            have HR6 := Lib.hid ((hb67.block _ (Array.getElem?_eq_some_iff.1 HR5.out).1).trans HR5.out)
            clear hb67 hb6
            by_cases hk : y.kind = 2
            · have HK := Lib.hid hk
              have hk2 : (y.kind == 2) = true := by simpa using hk
              clear hk
              go_wp2_with fail
              (with_reducible refine (no_any _ _).mono ?_)
              rintro e w9 ⟨rfl, hb9⟩
              unfold noV
              have HB9 := Lib.hid (HB6.out.trans (hb9.mono HB6.out.size))
              have HR9 := Lib.hid ((hb9.block _ (Array.getElem?_eq_some_iff.1 HR6.out).1).trans HR6.out)
              clear hb9
              go_wp2_with (refine wpList_store_rep (by rfl) 36 _ _ (by rfl) w.heap.size (reC (noM 22) none none 0 0) (by rfl) (by rfl) _ HR9.out repSize rfl (reC_one _ _ _ _ _) ?_; intro w10 hs10; have HS10 := Lib.hid hs10; clear hs10)
              refine ret_rep rfl rfl rfl HS10.out.1 ?_
              have e2 : sopenM M ls id = (noM 22, M) := HOT.out.trans ((if_neg (fun h => h HZ.out)).trans (by rw [HA.out]; exact if_pos HK.out))
              rw [e2]
              exact HEND.out _ _ _ HB9.out HS10.out rfl rfl
            · have HK := Lib.hid hk
              have hk2 : (y.kind == 2) = false := by simpa using hk
              clear hk
              have HRC := Lib.hid (HRD.out _ (y.b.length : Int) (okInt (by have := HYL.out y HA.out; omega) (by have := HYL.out y HA.out; omega)) HB37.out)
              go_wp2_with fail
              (with_reducible refine HRC.out.mono ?_)
              rintro e w8 ⟨ra, rn, rc, rfl, hrn, hrr, hb8⟩
              have hrl : (readB T ki 0 y.b.length).length = rn := by have := hrr.length; simpa using this
              have HB8 := Lib.hid (HB6.out.trans (hb8.mono HB6.out.size))
              have HR8 := Lib.hid ((hb8.block _ (Array.getElem?_eq_some_iff.1 HR6.out).1).trans HR6.out)
              have hM8 := HM1.out.step (I := fun _ => False) (fun e => e) (Step.grow HM1.out HB8.out)
              have hS8 := HS1.out.grow HM1.out HB8.out
              have hbo : Below w8.heap.size w8 (w8.alloc (.cells #[.bool false, .int .i64 0, .slice ra rn rc] 141)) := wall w8 _
              have HM9 := Lib.hid (hM8.step (I := fun _ => False) (fun e => e) (Step.grow hM8 hbo))
              have hfree : o1 w8.heap.size = 0 := Decidable.byContradiction fun h9 => by have := (hM8.new _ h9).2; omega
              have hM6 := HM1.out.step (I := fun _ => False) (fun e => e) (Step.grow HM1.out HB6.out)
              have hrow : RowAt (Free o1 (w8.alloc (.cells #[.bool false, .int .i64 0, .slice ra rn rc] 141))) (w8.alloc (.cells #[.bool false, .int .i64 0, .slice ra rn rc] 141)) ra rn ((readB T ki 0 y.b.length).map bv) := (RowAt.new_free hM6 hrr).move hbo.size fun b hb hbw => ⟨⟨hb.1, Nat.lt_of_lt_of_le hb.2 hbo.size⟩, hbo.block b hbw⟩
              have hfd : FdAt o1 (w8.alloc (.cells #[.bool false, .int .i64 0, .slice ra rn rc] 141)) (ptr w8.heap.size) (some ⟨false, 0, readB T ki 0 y.b.length⟩) := by
                refine ⟨w8.heap.size, ra, rc, rfl, hfree, by simp, ?_, by rw [hrl]; exact hrn, by rw [hrl]; exact hrow⟩
                rw [hrl]
                exact (MapKept.heap_alloc w8 _).1
              have HPUT := Lib.hid ((hS8.grow hM8 hbo).put HM9.out HKK.out fm hm8 (ptr w8.heap.size) _ hfd)
              obtain ⟨t', s', v', k1, k2, k3, k4⟩ := (hS8.grow hM8 hbo).at_
              obtain ⟨y0, y1, y2, y3, y4⟩ := st_cells k1
              have hzm := y3 fm hm8
              have hzf := y4 (3 + fm)
              have HR9 : Hid (((w8.alloc (.cells #[.bool false, .int .i64 0, .slice ra rn rc] 141)).setCell ⟨p, 3 + fm, none⟩ (ptr w8.heap.size)).heap[w.heap.size]? = some (.cells (reC (noM 0) none none 0 0) 36 (0, 0))) := Lib.hid ((HPUT.out.1.block (b := w.heap.size) (Nat.lt_of_lt_of_le (Array.getElem?_eq_some_iff.1 HR8.out).1 hbo.size) (by rw [HL1.out]; exact fun e => n10 e.symm)).trans ((hbo.block _ (Array.getElem?_eq_some_iff.1 HR8.out).1).trans HR8.out))
              have i0 : (0 : Int) ≤ fm := by omega
              have i1 : (fm : Int) < 8 := by omega
              have HB9 := Lib.hid (HB8.out.trans (hbo.mono HB8.out.size))
              clear k1 k2 k3 k4 hS8 hM8 hfree y0 y1 y2 y3 y4 hbo hrow hfd hrr hb8 hrl hM6
              go_wp2_with (refine wpList_store_rep (by rfl) 36 _ _ (by rfl) w.heap.size (reC ⟨0, fm, [], [], none⟩ none none 0 0) (by rfl) (by rfl) _ HR9.out repSize rfl (reC_one _ _ _ _ _) ?_; intro w10 hs10; have HS10 := Lib.hid hs10; clear hs10)
              refine ret_rep rfl rfl rfl HS10.out.1 ?_
              have e2 : sopenM M ls id = (⟨0, fm, [], [], none⟩, M.put fm (some ⟨false, 0, readB T ki 0 y.b.length⟩)) := by
                refine HOT.out.trans ((if_neg (fun h => h HZ.out)).trans ?_)
                rw [HA.out]
                refine (if_neg HK.out).trans ((if_neg (by rw [HCL.out]; simp)).trans ?_)
                rw [← HV.out]
                rfl
              rw [e2]
              have hM10 := HM9.out.step (I := fun m => m = k) (fun e => n3 e.symm) HPUT.out.1
              have hst := HS10.out.step hM10 HL1.out
              exact ⟨o1, ⟨_, rfl, none, none, 0, 0, rfl, Nat.le_refl _, Nat.le_refl _, RowAt.nil _ _ _, strs_nil _ _⟩, (((HST1.out.mono fun m hm => .inr (.inr (.inr hm))).trans (Step.grow HM1.out HB9.out)).trans (HPUT.out.1.mono fun m hm => .inr (.inr (.inl hm)))).trans (hst.mono fun m hm => .inr (.inr (.inr hm))), HPUT.out.2.step (fun e => n4 e.symm) n7 n9 n10 hst⟩
      · have HZ := Lib.hid hz
        have hz2 : (ke != 0) = true := by simpa using hz
        clear hz
        go_wp2_with fail
        (with_reducible refine (no_any _ _).mono ?_)
        rintro e w9 ⟨rfl, hb9⟩
        unfold noV
        have HB9 := Lib.hid (HB5.out.trans (hb9.mono HB5.out.size))
        have HR9 := Lib.hid ((hb9.block _ (Array.getElem?_eq_some_iff.1 HR5.out).1).trans HR5.out)
        clear hb9
        go_wp2_with (refine wpList_store_rep (by rfl) 36 _ _ (by rfl) w.heap.size (reC (noM ke) none none 0 0) (by rfl) (by rfl) _ HR9.out repSize rfl (reC_one _ _ _ _ _) ?_; intro w10 hs10; have HS10 := Lib.hid hs10; clear hs10)
        refine ret_rep rfl rfl rfl HS10.out.1 ?_
        have e2 : sopenM M ls id = (noM ke, M) := HOT.out.trans (if_pos HZ.out)
        rw [e2]
        exact HEND.out _ _ _ HB9.out HS10.out rfl rfl
end
end Go.Proofs.YtmabllemjkcobaaGreatDoor
namespace Go.Proofs.YtmabllemjkcobaaGreatDoor
open Go.ChangeShapes Go.WideShapes Go.ChangeAt Go.RowKit

def dueB (a b : Int) : Bool := decide (b ≤ a)
def nextOf (now tick : Int) : Int := if tick ≤ 1099511627776 then max now tick else now

theorem right_any (t : Int) (w : World) :
    Calls Tryz.prog 88 #[.int .u64 t] w fun e w' => e = .returned (.bool (decide (t ≤ 1099511627776))) ∧ w = w' := by
  go_enter Tryz.func88, Tryz.ntmps88
  go_wp2
  go_ret
  exact ⟨rfl, rfl⟩

theorem due_any (a b : Int) (w : World) :
    Calls Tryz.prog 177 #[.int .u64 a, .int .u64 b] w fun e w' => e = .returned (.bool (dueB a b)) ∧ w = w' := by
  go_enter Tryz.func177, Tryz.ntmps177
  go_wp2
  go_ret
  exact ⟨rfl, rfl⟩


theorem next_any (a b : Int) (w : World) :
    Calls Tryz.prog 50 #[.int .u64 a, .int .u64 b] w fun e w' => e = .returned (.int .u64 (nextOf a b)) ∧ w = w' := by
  by_cases h : b ≤ 1099511627776
  · go_enter Tryz.func50, Tryz.ntmps50
    go_wp2
    all_goals
      go_ret
      exact ⟨ret_int (by unfold nextOf; split <;> omega), rfl⟩
  · go_enter Tryz.func50, Tryz.ntmps50
    go_wp2
    all_goals
      go_ret
      exact ⟨ret_int (by unfold nextOf; split <;> omega), rfl⟩


end Go.Proofs.YtmabllemjkcobaaGreatDoor
namespace Go.Proofs.YtmabllemjkcobaaGreatDoor
open Go.ChangeShapes Go.WideShapes Go.ChangeAt Go.RowKit
set_option linter.unusedVariables false

def kindOf (k : Int) : Int := if k = 1 then 0 else if k = 2 then 22 else 30
def removeOf (k l u : Int) (c : Bool) (now : Int) : Int := if k = 1 ∧ c = true ∧ l ≤ 1 ∧ now < u then 28 else kindOf k
def keepOf (k u : Int) (c : Bool) (till : Int) : Int :=
  if k = 1 then (if c = false then 25 else if till < u then 28 else if 1099511627776 < till then 1 else 0) else kindOf k

theorem wkind_any (i k l s u : Int) (c : Bool) (w : World) :
    Calls Tryz.prog 176 #[.agg #[.int .i64 i, .int .i64 k, .int .i64 l, .int .i64 s, .int .u64 u, .bool c]] w fun e w' => e = .returned (.int .i64 (kindOf k)) ∧ w.alloc (.cells #[.int .i64 i, .int .i64 k, .int .i64 l, .int .i64 s, .int .u64 u, .bool c] 34) = w' := by
  by_cases h1 : k = 1
  · subst h1
    go_enter Tryz.func176, Tryz.ntmps176
    go_wp2
    go_ret
    exact ⟨rfl, rfl⟩
  · by_cases h2 : k = 2
    · subst h2
      go_enter Tryz.func176, Tryz.ntmps176
      go_wp2
      go_ret
      exact ⟨rfl, rfl⟩
    · have e1 : (k == 1) = false := by simp [h1]
      have e2 : (k == 2) = false := by simp [h2]
      go_enter Tryz.func176, Tryz.ntmps176
      go_wp2
      go_ret
      exact ⟨ret_int (by simp [kindOf, h1, h2]), rfl⟩

theorem kindOf_one : kindOf 1 = 0 := rfl
theorem kindOf_ne (k : Int) (h : k ≠ 1) : (kindOf k == 0) = false ∧ (kindOf k != 0) = true := by
  unfold kindOf; rw [if_neg h]; split <;> decide

theorem wremove_any (i k l s u : Int) (c : Bool) (now : Int) (w : World) :
    Calls Tryz.prog 106 #[.agg #[.int .i64 i, .int .i64 k, .int .i64 l, .int .i64 s, .int .u64 u, .bool c], .int .u64 now] w fun e w' => e = .returned (.int .i64 (removeOf k l u c now)) ∧ Below w.heap.size w w' := by
  by_cases h1 : k = 1
  · subst h1
    cases c
    · go_enter Tryz.func106, Tryz.ntmps106
      go_wp2_with (first | (go_at_call 176; refine (wkind_any _ _ _ _ _ _ _).mono ?_; rintro e w' ⟨rfl, rfl⟩; rw [kindOf_one]) | (go_at_call 177; refine (due_any _ _ _).mono ?_; rintro e w' ⟨rfl, rfl⟩))
      go_ret
      exact ⟨ret_int (by simp [removeOf, kindOf]), by repeat (first | exact Below.refl _ _ | refine Below.alloc ?_ (by simp) _)⟩
    · by_cases h2 : l ≤ 1
      · cases h3 : dueB now u
        · have h4 : now < u := by simp [dueB] at h3; omega
          have H := Lib.hid h4
          clear h4
          go_enter Tryz.func106, Tryz.ntmps106
          go_wp2_with (first | (go_at_call 176; refine (wkind_any _ _ _ _ _ _ _).mono ?_; rintro e w' ⟨rfl, rfl⟩; rw [kindOf_one]) | (go_at_call 177; refine (due_any _ _ _).mono ?_; rintro e w' ⟨rfl, rfl⟩))
          go_ret
          exact ⟨ret_int (by have := H.out; simp [removeOf, *]), by repeat (first | exact Below.refl _ _ | refine Below.alloc ?_ (by simp) _)⟩
        · have h4 : ¬ now < u := by simp [dueB] at h3; omega
          have H := Lib.hid h4
          clear h4
          go_enter Tryz.func106, Tryz.ntmps106
          go_wp2_with (first | (go_at_call 176; refine (wkind_any _ _ _ _ _ _ _).mono ?_; rintro e w' ⟨rfl, rfl⟩; rw [kindOf_one]) | (go_at_call 177; refine (due_any _ _ _).mono ?_; rintro e w' ⟨rfl, rfl⟩))
          go_ret
          exact ⟨ret_int (by have := H.out; simp [removeOf, kindOf, *]), by repeat (first | exact Below.refl _ _ | refine Below.alloc ?_ (by simp) _)⟩
      · go_enter Tryz.func106, Tryz.ntmps106
        go_wp2_with (first | (go_at_call 176; refine (wkind_any _ _ _ _ _ _ _).mono ?_; rintro e w' ⟨rfl, rfl⟩; rw [kindOf_one]) | (go_at_call 177; refine (due_any _ _ _).mono ?_; rintro e w' ⟨rfl, rfl⟩))
        go_ret
        exact ⟨ret_int (by have : ¬ l ≤ 1 := by omega
                           simp [removeOf, kindOf, this]), by repeat (first | exact Below.refl _ _ | refine Below.alloc ?_ (by simp) _)⟩
  · have e1 := (kindOf_ne k h1).1
    go_enter Tryz.func106, Tryz.ntmps106
    go_wp2_with (first | (go_at_call 176; refine (wkind_any _ _ _ _ _ _ _).mono ?_; rintro e w' ⟨rfl, rfl⟩) | (go_at_call 177; refine (due_any _ _ _).mono ?_; rintro e w' ⟨rfl, rfl⟩))
    go_ret
    exact ⟨ret_int (by simp [removeOf, h1]), by repeat (first | exact Below.refl _ _ | refine Below.alloc ?_ (by simp) _)⟩

theorem wkeep_any (i k l s u : Int) (c : Bool) (till : Int) (w : World) :
    Calls Tryz.prog 111 #[.agg #[.int .i64 i, .int .i64 k, .int .i64 l, .int .i64 s, .int .u64 u, .bool c], .int .u64 till] w fun e w' => e = .returned (.int .i64 (keepOf k u c till)) ∧ Below w.heap.size w w' := by
  by_cases h1 : k = 1
  · subst h1
    cases c
    · go_enter Tryz.func111, Tryz.ntmps111
      go_wp2_with (first | (go_at_call 176; refine (wkind_any _ _ _ _ _ _ _).mono ?_; rintro e w' ⟨rfl, rfl⟩; rw [kindOf_one]) | (go_at_call 88; refine (right_any _ _).mono ?_; rintro e w' ⟨rfl, rfl⟩))
      go_ret
      exact ⟨ret_int (by simp [keepOf]), by repeat (first | exact Below.refl _ _ | refine Below.alloc ?_ (by simp) _)⟩
    · by_cases h2 : till < u
      · go_enter Tryz.func111, Tryz.ntmps111
        go_wp2_with (first | (go_at_call 176; refine (wkind_any _ _ _ _ _ _ _).mono ?_; rintro e w' ⟨rfl, rfl⟩; rw [kindOf_one]) | (go_at_call 88; refine (right_any _ _).mono ?_; rintro e w' ⟨rfl, rfl⟩))
        go_ret
        exact ⟨ret_int (by simp [keepOf, *]), by repeat (first | exact Below.refl _ _ | refine Below.alloc ?_ (by simp) _)⟩
      · by_cases h3 : till ≤ 1099511627776
        · have H := Lib.hid h2
          go_enter Tryz.func111, Tryz.ntmps111
          go_wp2_with (first | (go_at_call 176; refine (wkind_any _ _ _ _ _ _ _).mono ?_; rintro e w' ⟨rfl, rfl⟩; rw [kindOf_one]) | (go_at_call 88; refine (right_any _ _).mono ?_; rintro e w' ⟨rfl, rfl⟩))
          go_ret
          exact ⟨ret_int (by have := H.out; have : ¬ 1099511627776 < till := by omega
                             simp [keepOf, *]), by repeat (first | exact Below.refl _ _ | refine Below.alloc ?_ (by simp) _)⟩
        · have H := Lib.hid h2
          have h5 : decide (till ≤ 1099511627776) = false := by simp; omega
          go_enter Tryz.func111, Tryz.ntmps111
          go_wp2_with (first | (go_at_call 176; refine (wkind_any _ _ _ _ _ _ _).mono ?_; rintro e w' ⟨rfl, rfl⟩; rw [kindOf_one]) | (go_at_call 88; refine (right_any _ _).mono ?_; rintro e w' ⟨rfl, rfl⟩))
          go_ret
          exact ⟨ret_int (by have := H.out; have : 1099511627776 < till := by omega
                             simp [keepOf, *]), by repeat (first | exact Below.refl _ _ | refine Below.alloc ?_ (by simp) _)⟩
  · have e1 := (kindOf_ne k h1).2
    go_enter Tryz.func111, Tryz.ntmps111
    go_wp2_with (go_at_call 176; refine (wkind_any _ _ _ _ _ _ _).mono ?_; rintro e w' ⟨rfl, rfl⟩)
    go_ret
    exact ⟨ret_int (by simp [keepOf, h1]), by repeat (first | exact Below.refl _ _ | refine Below.alloc ?_ (by simp) _)⟩
end Go.Proofs.YtmabllemjkcobaaGreatDoor
namespace Go.Proofs.YtmabllemjkcobaaGreatDoor
open Go.ChangeShapes Go.WideShapes Go.ChangeAt Go.RowKit
set_option linter.unusedVariables false
set_option linter.unusedSimpArgs false

/-- A node, and why there is none. -/
structure NodeX where
  i : Int
  k : Int
  l : Int
  s : Int
  u : Int
  c : Bool
  er : Int
def nodeAtX (T : TrM) (ls : List Nm) : NodeX := if (lookE T ls).2 ≠ 0 then ⟨0, 0, 0, 0, 0, false, (lookE T ls).2⟩ else match aget (lookE T ls).1 T with | some x => ⟨(lookE T ls).1, x.kind, x.links, x.b.length, x.til, x.closed, 0⟩ | none => ⟨0, 0, 0, 0, 0, false, 0⟩
def NodeX.cells (x : NodeX) : Array Value := #[.int .i64 x.i, .int .i64 x.k, .int .i64 x.l, .int .i64 x.s, .int .u64 x.u, .bool x.c]
theorem nodeAtM_eq (T : TrM) (ls : List Nm) : nodeAtM T ls = ((nodeAtX T ls).cells, (nodeAtX T ls).er) := by
  unfold nodeAtM nodeAtX
  by_cases h : (lookE T ls).2 ≠ 0
  · rw [if_pos h, if_pos h]; rfl
  · rw [if_neg h, if_neg h]
    cases aget (lookE T ls).1 T <;> rfl
def sunlinkM (M : StM) (ls : List Nm) : Int × StM :=
  if (nodeAtX M.t ls).er ≠ 0 then ((nodeAtX M.t ls).er, M) else
  if removeOf (nodeAtX M.t ls).k (nodeAtX M.t ls).l (nodeAtX M.t ls).u (nodeAtX M.t ls).c M.now ≠ 0 then (removeOf (nodeAtX M.t ls).k (nodeAtX M.t ls).l (nodeAtX M.t ls).u (nodeAtX M.t ls).c M.now, M) else
  ((unlinkM M.t ls).1, { M with t := (unlinkM M.t ls).2 })
section
variable {W w : World} {o : Mark} {i j k l p : Nat} {M : StM}
set_option maxRecDepth 100000 in
set_option maxHeartbeats 4000000 in
theorem sunlink_any {S : Nat → Prop} (hS : StateO o i j k w p M) (hM : Marks W o w) (hk : Mk i j k l) (hok : OkM M.t) (a : Option Addr) (n c : Nat) (ls : List Nm) (hls : StrsAt S w a n (ls.map strOf)) (hnc : n ≤ c) (hn8 : n ≤ 1000000) (hid : (Lit.int .i64 (lookE M.t ls).1).wf = true) :
    Calls Tryz.prog 44 #[ptr p, .slice a n c] w (ErRet o i j k l w p (sunlinkM M ls)) := by
  have HN := Lib.hid (snode_any hS hM hok a n c ls hls hid)
  rw [nodeAtM_eq] at HN
  have HKK := Lib.hid hk
  have HOK := Lib.hid hok
  have HM := Lib.hid hM
  have HS := Lib.hid hS
  have HLS := Lib.hid hls
  have hr : sunlinkM M ls = sunlinkM M ls := rfl
  conv at hr => rhs; unfold sunlinkM
  have HR := Lib.hid hr
  clear hS hM hk hok hls hid hr
  generalize nodeAtX M.t ls = X at HN HR
  obtain ⟨xi, xk, xl, xs, xu, xc, xe⟩ := X
  unfold NodeX.cells at HN
  go_enter Tryz.func44, Tryz.ntmps44
  go_wp2_with fail
  (with_reducible refine HN.out.mono ?_)
  rintro e w1 ⟨rfl, hb1⟩
  have HB1 := Lib.hid hb1
  have HB2 : Hid (Below w.heap.size w (w1.alloc (.cells #[.int .i64 xi, .int .i64 xk, .int .i64 xl, .int .i64 xs, .int .u64 xu, .bool xc] 34))) := Lib.hid (hb1.trans ((wall _ _).mono hb1.size))
  obtain ⟨n1, n2, n3, n4, n5, n6, n7, n8, n9, n10⟩ := HKK.out.ne
  clear hb1 HN
  by_cases hz : xe = 0
  · have HZ := Lib.hid hz
    have hz2 : (xe == 0) = true := by simpa using hz
    clear hz
    obtain ⟨w2, hw2⟩ : ∃ w2, w2 = w1.alloc (.cells #[.int .i64 xi, .int .i64 xk, .int .i64 xl, .int .i64 xs, .int .u64 xu, .bool xc] 34) := ⟨_, rfl⟩
    have hnd : w2.heap[w1.heap.size]? = some (.cells #[.int .i64 xi, .int .i64 xk, .int .i64 xl, .int .i64 xs, .int .u64 xu, .bool xc] 34 (0, 0)) := by rw [hw2]; exact (MapKept.heap_alloc w1 _).1
    rw [← hw2] at HB2
    have hS2 := HS.out.grow HM.out HB2.out
    have hM2 := HM.out.step (I := fun _ => False) (fun e => e) (Step.grow HM.out HB2.out)
    obtain ⟨t, s, v, h1, h2, h3, h4⟩ := hS2.at_
    have hps := hS2.low
    have HC : Hid (∀ w', Below w2.heap.size w2 w' → w'.cell? ⟨w1.heap.size, 0, none⟩ = some (.int .i64 xi) ∧ w'.cell? ⟨w1.heap.size, 1, none⟩ = some (.int .i64 xk) ∧ w'.cell? ⟨w1.heap.size, 2, none⟩ = some (.int .i64 xl) ∧ w'.cell? ⟨w1.heap.size, 3, none⟩ = some (.int .i64 xs) ∧ w'.cell? ⟨w1.heap.size, 4, none⟩ = some (.int .u64 xu) ∧ w'.cell? ⟨w1.heap.size, 5, none⟩ = some (.bool xc) ∧ w'.cell? ⟨p, 2, none⟩ = some (.int .u64 M.now) ∧ w'.cell? ⟨p, 0, none⟩ = some (ptr t)) := fun w' hb => by
      have e1 := (hb.block _ (Array.getElem?_eq_some_iff.1 hnd).1).trans hnd
      have e2 := (hb.block _ hps).trans h1
      refine ⟨?_, ?_, ?_, ?_, ?_, ?_, ?_, ?_⟩ <;> simp [World.cell?, e1, e2, stC]
    have HUN : Hid (∀ w', Below w2.heap.size w2 w' → Calls Tryz.prog 107 #[ptr t, .slice a n c] w' (ErRet o i j k l w p ((unlinkM M.t ls).1, { M with t := (unlinkM M.t ls).2 }))) := fun w' hb => by
      have hM3 := hM2.step (I := fun _ => False) (fun e => e) (Step.grow hM2 hb)
      have hS3 := hS2.grow hM2 hb
      have hst : Step o (fun m => m = i ∨ m = j ∨ m = k ∨ m = l) w o w' := (Step.grow HM.out HB2.out).trans (Step.grow hM2 hb)
      have g1 := (hb.block p hps).trans h1
      have g2 := h2.grow hM2 hb
      have g4 : ∀ n, n < 8 → FdAt o w' (v n) (M.fds n) := fun n hn => (h4 n hn).grow hb
      refine (om_unlink (h3.grow hb) hM3 n2 HOK.out a n c ls (HLS.out.below (HB2.out.trans (hb.mono HB2.out.size)) (Nat.le_refl _)) hnc hn8).mono ?_
      rintro e w4 ⟨rfl, o4, hs4, hT4⟩
      exact ⟨rfl, o4, hst.trans (hs4.mono fun m hm => .inr (.inl hm)), StateO.tree (M := M) HKK.out g1 g2 g4 hS3.own hS3.low hs4 hT4⟩
    have hw2' := hw2
    clear h1 h2 h3 h4 hnd hS2 hM2 hw2
    go_wp2_with fail
    rw [← hw2']
    clear hw2'
    refine wp_region_noPanic ?_
    refine wp_region_held_drew (S := (fun w' => w'.cell? ⟨w1.heap.size, 0, none⟩ = some (.int .i64 xi) ∧ w'.cell? ⟨w1.heap.size, 1, none⟩ = some (.int .i64 xk) ∧ w'.cell? ⟨w1.heap.size, 2, none⟩ = some (.int .i64 xl) ∧ w'.cell? ⟨w1.heap.size, 3, none⟩ = some (.int .i64 xs) ∧ w'.cell? ⟨w1.heap.size, 4, none⟩ = some (.int .u64 xu) ∧ w'.cell? ⟨w1.heap.size, 5, none⟩ = some (.bool xc) ∧ w'.cell? ⟨p, 2, none⟩ = some (.int .u64 M.now) ∧ w'.cell? ⟨p, 0, none⟩ = some (ptr t))) (by kernel_rfl) ?_ (fun hS => ?_)
    · exact HC.out _ (Below.refl _ _).drew
    refine tkH 0 (hS := hS) (h := ?_)
    refine tkH 1 (hS := hS) (h := ?_)
    refine tkH 2 (hS := hS) (h := ?_)
    refine tkH 3 (hS := hS) (h := ?_)
    refine tkH 4 (hS := hS) (h := ?_)
    refine rdH 5 (h := fun K hK => ?_)
    go_simp
    (with_reducible refine (wremove_any xi xk xl xs xu xc M.now _).mono ?_)
    rintro e w3 ⟨rfl, hb3⟩
    have HB3 : Hid (Below w2.heap.size w2 w3) := Lib.hid ((Below.refl _ _).drew.trans hb3)
    have HCC := Lib.hid (HC.out _ HB3.out)
    have q0 := (HC.out _ HB3.out).2.2.2.2.2.2.2
    have HU3 := Lib.hid (HUN.out _ HB3.out)
    obtain ⟨re, hre⟩ : ∃ re, re = removeOf xk xl xu xc M.now := ⟨_, rfl⟩
    rw [← hre]
    have HRE := Lib.hid hre
    clear hre hb3
    go_wp2_with fail
    refine hK.out _ _ (HCC.out) (fun hS => ?_)
    clear hK K
    try simp only [Act.put, List.setIfInBounds_toArray, List.set_cons_zero, List.set_cons_succ]
    refine tkH 6 (hS := hS) (h := ?_)
    refine wpAnyH_done (by kernel_rfl) ?_ _
    refine NoPanic.normal ?_
    clear hS
    by_cases hy : re = 0
    · have HY := Lib.hid hy
      have hy2 : (re != 0) = false := by simpa using hy
      clear hy
      go_wp2_with fail
      (with_reducible refine HU3.out.mono ?_)
      rintro e w4 ⟨rfl, ho⟩
      have HO := Lib.hid ho
      clear ho
      go_wp2_with fail
      go_ret
      have e2 : sunlinkM M ls = ((unlinkM M.t ls).1, { M with t := (unlinkM M.t ls).2 }) := HR.out.trans ((if_neg (fun h => h HZ.out)).trans (if_neg (fun h => h (HRE.out.symm.trans HY.out))))
      rw [e2]
      exact ⟨rfl, HO.out⟩
    · have HY := Lib.hid hy
      have hy2 : (re != 0) = true := by simpa using hy
      clear hy
      go_wp2_with fail
      go_ret
      have e2 : sunlinkM M ls = (re, M) := HR.out.trans ((if_neg (fun h => h HZ.out)).trans ((if_pos (fun h => HY.out (HRE.out.trans h))).trans (by rw [← HRE.out])))
      rw [e2]
      have hb := HB2.out.trans (HB3.out.mono HB2.out.size)
      exact ⟨rfl, o, Step.grow HM.out hb, HS.out.grow HM.out hb⟩
  · have HZ := Lib.hid hz
    have hz2 : (xe == 0) = false := by simpa using hz
    have hz3 : (xe != 0) = true := by simpa using hz
    clear hz
    go_wp2_with fail
    go_ret
    have e2 : sunlinkM M ls = (xe, M) := HR.out.trans (if_pos HZ.out)
    rw [e2]
    exact ⟨rfl, o, Step.grow HM.out HB2.out, HS.out.grow HM.out HB2.out⟩
end
end Go.Proofs.YtmabllemjkcobaaGreatDoor
