/- package state: paths, kinds 7 10 4 5 6. package state: paths, kinds 14 15 16 17. package state: paths. -/
import Derived.Test.YtpgklnhkfgbpgaaGreatDoorM41
import Derived.Test.YtpgklnhkfgbpgaaGreatDoorM42
import Derived.Test.YtpgklnhkfgbpgaaGreatDoorM43
namespace Go.Proofs.YtpgklnhkfgbpgaaGreatDoor
open Go.ChangeShapes Go.WideShapes Go.ChangeAt Go.RowKit
set_option linter.unusedVariables false
set_option linter.unusedSimpArgs false

set_option maxRecDepth 100000 in
set_option maxHeartbeats 8000000 in
theorem paths_k7 (p : Nat) (w : World) (pa to_ : List UInt8) (fd at_ n til sn : Int) (dt : List UInt8) (da : Option Addr) (dc : Nat) (hpa : pa.length < 4294967281) (hto : to_.length < 4294967281) (m : Int) (hm : w.cell? ⟨0, 0, none⟩ = some (.int .i64 m)) :
    Calls Tryz.prog 36 #[ptr p, .agg (opC ⟨7, pa, to_, fd, at_, n, til, sn, dt⟩ da dc)] w (PathsRet w (splitsM [pa, to_])) := by
  obtain ⟨ie, he, hz0, hz1, hz2⟩ := info_parts info_strs
  have h0lt : 0 < w.heap.size := World.block_lt_of_cell? w _ hm
  obtain ⟨w1, hw1⟩ : ∃ w1, w1 = (w.alloc (.cells (opC ⟨7, pa, to_, fd, at_, n, til, sn, dt⟩ da dc) 36)).alloc (.cells #[.string (strOf pa), .string (strOf to_)] 9) := ⟨_, rfl⟩
  have hb1 : Below w.heap.size w w1 := by rw [hw1]; exact (wall w _).trans ((wall _ _).mono (by simp))
  have hbl : w1.heap[w.heap.size + 1]? = some (.cells #[.string (strOf pa), .string (strOf to_)] 9 (0, 0)) := by
    rw [hw1]
    have := (MapKept.heap_alloc (w.alloc (.cells (opC ⟨7, pa, to_, fd, at_, n, til, sn, dt⟩ da dc) 36)) (.cells #[.string (strOf pa), .string (strOf to_)] 9)).1
    rw [World.size_alloc] at this
    exact this
  have hrow : ∀ k t, ([pa, to_] : List (List UInt8))[k]? = some t → w1.cell? ⟨w.heap.size + 1, k, none⟩ = some (.string (strOf t)) ∧ t.length < 4294967281 := fun k t h => by
    rcases k with _ | k
    · obtain rfl : pa = t := by simpa using h
      exact ⟨by simp [World.cell?, hbl], hpa⟩
    · rcases k with _ | k
      · obtain rfl : to_ = t := by simpa using h
        exact ⟨by simp [World.cell?, hbl], hto⟩
      · simp at h
  have hbz : w.heap.size + 1 < w1.heap.size := (Array.getElem?_eq_some_iff.1 hbl).1
  clear hbl
  have HROW := Lib.hid hrow
  have HB1 := Lib.hid hb1
  have HW := Lib.hid hw1
  have HM := Lib.hid hm
  have HLT := Lib.hid h0lt
  clear hrow hb1 hw1 hm hpa hto h0lt
  unfold opC at HW
  unfold opC
  go_enter Tryz.func36, Tryz.ntmps36
  go_wp2_with fail
  rw [← HW.out]
  clear HW
  obtain ⟨ts, hts⟩ : ∃ ts : List (List UInt8), ts = [pa, to_] := ⟨_, rfl⟩
  have hnn : ts.length = 2 := by rw [hts]; rfl
  rw [← hts] at HROW
  have HTS := Lib.hid hts
  clear hts
  have HNN := Lib.hid hnn
  clear hnn
  go_loopw [7, 44] (fun v iv wr => ∃ k : Nat, k ≤ 2 ∧ iv = .int .i64 k ∧ PathsLoop w1 ts k v wr) (fun _ iv _ => 2 - (intOf iv).toNat)
  case atStart => exact ⟨0, by omega, rfl, PathsLoop.start ts (Below.refl _ _)⟩
  case round =>
    obtain ⟨k, hk, rfl, hrel⟩ := hrel
    have HR := Lib.hid hrel
    clear hrel
    by_cases hlt : k < 2
    · obtain ⟨t, ht⟩ : ∃ t, ts[k]? = some t := ⟨ts[k]'(by rw [HNN.out]; exact hlt), List.getElem?_eq_getElem _⟩
      obtain ⟨hc1, hts⟩ := HROW.out k t ht
      obtain ⟨vals, hown, hpv, hbw, hok⟩ := HR.out
      have hcell := (hbw.cell (p := ⟨w.heap.size + 1, k, none⟩) hbz).trans hc1
      have hmr : wr.cell? ⟨0, 0, none⟩ = some (.int .i64 m) := ((HB1.out.trans (hbw.mono HB1.out.size)).cell (p := ⟨0, 0, none⟩) HLT.out).trans HM.out
      have HSP := Lib.hid (split_any (strOf t) wr (by rw [strOf_size]; exact hts) m hmr)
      have HT := Lib.hid ht
      have HOWN := Lib.hid hown
      have HPV := Lib.hid hpv
      have HBW := Lib.hid hbw
      have HOK := Lib.hid hok
      have i0 : (0 : Int) ≤ (k : Int) := by omega
      have i1 : (k : Int) < 2 := by omega
      have hsz := hbw.size
      have hd : decide ((k : Int) < 2) = true := by simpa using i1
      obtain ⟨ao, co, rfl, hac⟩ := own_form hown
      clear hown hpv hbw hok ht hc1 hts hmr
      go_wp2_with fail
      (with_reducible refine HSP.out.mono ?_)
      rintro e w2 ⟨a, len, cap, ss, rfl, hlc, hbs, hS, hb2⟩
      rw [show (strOf t).data.toList = t from rfl] at hbs ⊢
      have HBS := Lib.hid hbs
      have HS := Lib.hid hS
      have HB2 := Lib.hid hb2
      have HLC := Lib.hid hlc
      have hs2 := hb2.size
      clear HSP hbs hS hb2 hlc
      obtain ⟨z, hz⟩ : ∃ z, z = (pathSplit t).2 := ⟨_, rfl⟩
      rw [← hz]
      by_cases hzz : z = 0
      · have HZ := Lib.hid (hz.symm.trans hzz)
        subst hzz
        clear hz
        go_wp2_with (at_builtin; refine wpList_append_row (by rfl) _ _ 62 (by rfl) w1.heap.size 28 ie (.slice none 0 0) 24 Tryz.underlying62 he hz0 hz1 hz2 rfl _ _ _ (by rfl) (own_keep HOWN.out fun b hb _ => ((wall w2 (.cells #[.slice a len cap] 28)).block b (by have := own_lt HOWN.out b hb; omega)).trans (HB2.out.block b (own_lt HOWN.out b hb))) (some ⟨w2.heap.size, 0, none⟩) 1 1 [.slice a len cap] (by rfl) (one_row _ _) (by intro u hu; rw [List.mem_singleton.1 hu]; rfl) (by unfold maxLen; omega) (by omega) (by simp; omega) ?_; intro A' c' w4 hown4 hgrow4 _ hob4)
        have HN := Lib.hid (PathsLoop.next HOWN.out HPV.out HBW.out HOK.out HT.out HZ.out HLC.out HBS.out HS.out HB2.out (wall w2 _) hown4 hgrow4 hob4)
        have HG4 := Lib.hid hgrow4
        clear hown4 hgrow4 hob4
        go_roundw
        case rel =>
          exact ⟨k + 1, by omega, by go_num, HN.out⟩
        case measure => simp [intOf]; omega
      · have HZ := Lib.hid hzz
        have hz2 : (z != 0) = true := by simpa using hzz
        have HZE := Lib.hid hz
        clear hzz hz
        go_wp2_with fail
        go_ret2
        rw [← HTS.out, splitsM_bad ts k t HT.out HOK.out (by rw [← HZE.out]; exact HZ.out)]
        exact ⟨none, 0, 0, [], by rw [HZE.out]; rfl, rfl, Nat.le_refl _, RowAt.nil _ _ _, ⟨rfl, fun i q hq => by simp at hq⟩, HB1.out.trans ((HBW.out.trans (HB2.out.mono HBW.out.size)).mono HB1.out.size)⟩
    · have hd : decide ((k : Int) < 2) = false := by simp; omega
      obtain rfl : k = 2 := by omega
      obtain ⟨a, c, vals, rfl, hac, hown⟩ := HR.out.one
      clear hown
      go_wp2_with fail
      go_ret2
      have hd := HR.out
      rw [← HNN.out] at hd
      have := hd.done
      rw [HNN.out, HTS.out] at this
      exact this.up HB1.out
set_option maxRecDepth 100000 in
set_option maxHeartbeats 8000000 in
theorem paths_k10 (p : Nat) (w : World) (pa to_ : List UInt8) (fd at_ n til sn : Int) (dt : List UInt8) (da : Option Addr) (dc : Nat) (hpa : pa.length < 4294967281) (hto : to_.length < 4294967281) (m : Int) (hm : w.cell? ⟨0, 0, none⟩ = some (.int .i64 m)) :
    Calls Tryz.prog 36 #[ptr p, .agg (opC ⟨10, pa, to_, fd, at_, n, til, sn, dt⟩ da dc)] w (PathsRet w (splitsM [pa, to_])) := by
  obtain ⟨ie, he, hz0, hz1, hz2⟩ := info_parts info_strs
  have h0lt : 0 < w.heap.size := World.block_lt_of_cell? w _ hm
  obtain ⟨w1, hw1⟩ : ∃ w1, w1 = (w.alloc (.cells (opC ⟨10, pa, to_, fd, at_, n, til, sn, dt⟩ da dc) 36)).alloc (.cells #[.string (strOf pa), .string (strOf to_)] 9) := ⟨_, rfl⟩
  have hb1 : Below w.heap.size w w1 := by rw [hw1]; exact (wall w _).trans ((wall _ _).mono (by simp))
  have hbl : w1.heap[w.heap.size + 1]? = some (.cells #[.string (strOf pa), .string (strOf to_)] 9 (0, 0)) := by
    rw [hw1]
    have := (MapKept.heap_alloc (w.alloc (.cells (opC ⟨10, pa, to_, fd, at_, n, til, sn, dt⟩ da dc) 36)) (.cells #[.string (strOf pa), .string (strOf to_)] 9)).1
    rw [World.size_alloc] at this
    exact this
  have hrow : ∀ k t, ([pa, to_] : List (List UInt8))[k]? = some t → w1.cell? ⟨w.heap.size + 1, k, none⟩ = some (.string (strOf t)) ∧ t.length < 4294967281 := fun k t h => by
    rcases k with _ | k
    · obtain rfl : pa = t := by simpa using h
      exact ⟨by simp [World.cell?, hbl], hpa⟩
    · rcases k with _ | k
      · obtain rfl : to_ = t := by simpa using h
        exact ⟨by simp [World.cell?, hbl], hto⟩
      · simp at h
  have hbz : w.heap.size + 1 < w1.heap.size := (Array.getElem?_eq_some_iff.1 hbl).1
  clear hbl
  have HROW := Lib.hid hrow
  have HB1 := Lib.hid hb1
  have HW := Lib.hid hw1
  have HM := Lib.hid hm
  have HLT := Lib.hid h0lt
  clear hrow hb1 hw1 hm hpa hto h0lt
  unfold opC at HW
  unfold opC
  go_enter Tryz.func36, Tryz.ntmps36
  go_wp2_with fail
  rw [← HW.out]
  clear HW
  obtain ⟨ts, hts⟩ : ∃ ts : List (List UInt8), ts = [pa, to_] := ⟨_, rfl⟩
  have hnn : ts.length = 2 := by rw [hts]; rfl
  rw [← hts] at HROW
  have HTS := Lib.hid hts
  clear hts
  have HNN := Lib.hid hnn
  clear hnn
  go_loopw [7, 44] (fun v iv wr => ∃ k : Nat, k ≤ 2 ∧ iv = .int .i64 k ∧ PathsLoop w1 ts k v wr) (fun _ iv _ => 2 - (intOf iv).toNat)
  case atStart => exact ⟨0, by omega, rfl, PathsLoop.start ts (Below.refl _ _)⟩
  case round =>
    obtain ⟨k, hk, rfl, hrel⟩ := hrel
    have HR := Lib.hid hrel
    clear hrel
    by_cases hlt : k < 2
    · obtain ⟨t, ht⟩ : ∃ t, ts[k]? = some t := ⟨ts[k]'(by rw [HNN.out]; exact hlt), List.getElem?_eq_getElem _⟩
      obtain ⟨hc1, hts⟩ := HROW.out k t ht
      obtain ⟨vals, hown, hpv, hbw, hok⟩ := HR.out
      have hcell := (hbw.cell (p := ⟨w.heap.size + 1, k, none⟩) hbz).trans hc1
      have hmr : wr.cell? ⟨0, 0, none⟩ = some (.int .i64 m) := ((HB1.out.trans (hbw.mono HB1.out.size)).cell (p := ⟨0, 0, none⟩) HLT.out).trans HM.out
      have HSP := Lib.hid (split_any (strOf t) wr (by rw [strOf_size]; exact hts) m hmr)
      have HT := Lib.hid ht
      have HOWN := Lib.hid hown
      have HPV := Lib.hid hpv
      have HBW := Lib.hid hbw
      have HOK := Lib.hid hok
      have i0 : (0 : Int) ≤ (k : Int) := by omega
      have i1 : (k : Int) < 2 := by omega
      have hsz := hbw.size
      have hd : decide ((k : Int) < 2) = true := by simpa using i1
      obtain ⟨ao, co, rfl, hac⟩ := own_form hown
      clear hown hpv hbw hok ht hc1 hts hmr
      go_wp2_with fail
      (with_reducible refine HSP.out.mono ?_)
      rintro e w2 ⟨a, len, cap, ss, rfl, hlc, hbs, hS, hb2⟩
      rw [show (strOf t).data.toList = t from rfl] at hbs ⊢
      have HBS := Lib.hid hbs
      have HS := Lib.hid hS
      have HB2 := Lib.hid hb2
      have HLC := Lib.hid hlc
      have hs2 := hb2.size
      clear HSP hbs hS hb2 hlc
      obtain ⟨z, hz⟩ : ∃ z, z = (pathSplit t).2 := ⟨_, rfl⟩
      rw [← hz]
      by_cases hzz : z = 0
      · have HZ := Lib.hid (hz.symm.trans hzz)
        subst hzz
        clear hz
        go_wp2_with (at_builtin; refine wpList_append_row (by rfl) _ _ 62 (by rfl) w1.heap.size 28 ie (.slice none 0 0) 24 Tryz.underlying62 he hz0 hz1 hz2 rfl _ _ _ (by rfl) (own_keep HOWN.out fun b hb _ => ((wall w2 (.cells #[.slice a len cap] 28)).block b (by have := own_lt HOWN.out b hb; omega)).trans (HB2.out.block b (own_lt HOWN.out b hb))) (some ⟨w2.heap.size, 0, none⟩) 1 1 [.slice a len cap] (by rfl) (one_row _ _) (by intro u hu; rw [List.mem_singleton.1 hu]; rfl) (by unfold maxLen; omega) (by omega) (by simp; omega) ?_; intro A' c' w4 hown4 hgrow4 _ hob4)
        have HN := Lib.hid (PathsLoop.next HOWN.out HPV.out HBW.out HOK.out HT.out HZ.out HLC.out HBS.out HS.out HB2.out (wall w2 _) hown4 hgrow4 hob4)
        have HG4 := Lib.hid hgrow4
        clear hown4 hgrow4 hob4
        go_roundw
        case rel =>
          exact ⟨k + 1, by omega, by go_num, HN.out⟩
        case measure => simp [intOf]; omega
      · have HZ := Lib.hid hzz
        have hz2 : (z != 0) = true := by simpa using hzz
        have HZE := Lib.hid hz
        clear hzz hz
        go_wp2_with fail
        go_ret2
        rw [← HTS.out, splitsM_bad ts k t HT.out HOK.out (by rw [← HZE.out]; exact HZ.out)]
        exact ⟨none, 0, 0, [], by rw [HZE.out]; rfl, rfl, Nat.le_refl _, RowAt.nil _ _ _, ⟨rfl, fun i q hq => by simp at hq⟩, HB1.out.trans ((HBW.out.trans (HB2.out.mono HBW.out.size)).mono HB1.out.size)⟩
    · have hd : decide ((k : Int) < 2) = false := by simp; omega
      obtain rfl : k = 2 := by omega
      obtain ⟨a, c, vals, rfl, hac, hown⟩ := HR.out.one
      clear hown
      go_wp2_with fail
      go_ret2
      have hd := HR.out
      rw [← HNN.out] at hd
      have := hd.done
      rw [HNN.out, HTS.out] at this
      exact this.up HB1.out
set_option maxRecDepth 100000 in
set_option maxHeartbeats 8000000 in
theorem paths_k4 (p : Nat) (w : World) (pa to_ : List UInt8) (fd at_ n til sn : Int) (dt : List UInt8) (da : Option Addr) (dc : Nat) (hpa : pa.length < 4294967281) (hto : to_.length < 4294967281) (m : Int) (hm : w.cell? ⟨0, 0, none⟩ = some (.int .i64 m)) :
    Calls Tryz.prog 36 #[ptr p, .agg (opC ⟨4, pa, to_, fd, at_, n, til, sn, dt⟩ da dc)] w (PathsRet w (splitsM [])) := by
  obtain ⟨ie, he, hz0, hz1, hz2⟩ := info_parts info_strs
  have h0lt : 0 < w.heap.size := World.block_lt_of_cell? w _ hm
  obtain ⟨w1, hw1⟩ : ∃ w1, w1 = w.alloc (.cells (opC ⟨4, pa, to_, fd, at_, n, til, sn, dt⟩ da dc) 36) := ⟨_, rfl⟩
  have hb1 : Below w.heap.size w w1 := by rw [hw1]; exact wall w _
  have hrow : ∀ k t, ([] : List (List UInt8))[k]? = some t → w1.cell? ⟨w.heap.size + 1, k, none⟩ = some (.string (strOf t)) ∧ t.length < 4294967281 := fun k t h => by simp at h
  have HROW := Lib.hid hrow
  have HB1 := Lib.hid hb1
  have HW := Lib.hid hw1
  have HM := Lib.hid hm
  have HLT := Lib.hid h0lt
  clear hrow hb1 hw1 hm hpa hto h0lt
  unfold opC at HW
  unfold opC
  go_enter Tryz.func36, Tryz.ntmps36
  go_wp2_with fail
  rw [← HW.out]
  clear HW
  obtain ⟨ts, hts⟩ : ∃ ts : List (List UInt8), ts = [] := ⟨_, rfl⟩
  have hnn : ts.length = 0 := by rw [hts]; rfl
  rw [← hts] at HROW
  have HTS := Lib.hid hts
  clear hts
  have HNN := Lib.hid hnn
  clear hnn
  go_loopw [7, 44] (fun v iv wr => ∃ k : Nat, k ≤ 0 ∧ iv = .int .i64 k ∧ PathsLoop w1 ts k v wr) (fun _ iv _ => 0 - (intOf iv).toNat)
  case atStart => exact ⟨0, by omega, rfl, PathsLoop.start ts (Below.refl _ _)⟩
  case round =>
    obtain ⟨k, hk, rfl, hrel⟩ := hrel
    have HR := Lib.hid hrel
    clear hrel
    obtain rfl : k = 0 := by omega
    obtain ⟨a, c, vals, rfl, hac, hown⟩ := HR.out.one
    go_wp2_with fail
    go_ret2
    have hd := HR.out
    rw [← HNN.out] at hd
    have := hd.done
    rw [HNN.out, HTS.out] at this
    exact this.up HB1.out
set_option maxRecDepth 100000 in
set_option maxHeartbeats 8000000 in
theorem paths_k5 (p : Nat) (w : World) (pa to_ : List UInt8) (fd at_ n til sn : Int) (dt : List UInt8) (da : Option Addr) (dc : Nat) (hpa : pa.length < 4294967281) (hto : to_.length < 4294967281) (m : Int) (hm : w.cell? ⟨0, 0, none⟩ = some (.int .i64 m)) :
    Calls Tryz.prog 36 #[ptr p, .agg (opC ⟨5, pa, to_, fd, at_, n, til, sn, dt⟩ da dc)] w (PathsRet w (splitsM [])) := by
  obtain ⟨ie, he, hz0, hz1, hz2⟩ := info_parts info_strs
  have h0lt : 0 < w.heap.size := World.block_lt_of_cell? w _ hm
  obtain ⟨w1, hw1⟩ : ∃ w1, w1 = w.alloc (.cells (opC ⟨5, pa, to_, fd, at_, n, til, sn, dt⟩ da dc) 36) := ⟨_, rfl⟩
  have hb1 : Below w.heap.size w w1 := by rw [hw1]; exact wall w _
  have hrow : ∀ k t, ([] : List (List UInt8))[k]? = some t → w1.cell? ⟨w.heap.size + 1, k, none⟩ = some (.string (strOf t)) ∧ t.length < 4294967281 := fun k t h => by simp at h
  have HROW := Lib.hid hrow
  have HB1 := Lib.hid hb1
  have HW := Lib.hid hw1
  have HM := Lib.hid hm
  have HLT := Lib.hid h0lt
  clear hrow hb1 hw1 hm hpa hto h0lt
  unfold opC at HW
  unfold opC
  go_enter Tryz.func36, Tryz.ntmps36
  go_wp2_with fail
  rw [← HW.out]
  clear HW
  obtain ⟨ts, hts⟩ : ∃ ts : List (List UInt8), ts = [] := ⟨_, rfl⟩
  have hnn : ts.length = 0 := by rw [hts]; rfl
  rw [← hts] at HROW
  have HTS := Lib.hid hts
  clear hts
  have HNN := Lib.hid hnn
  clear hnn
  go_loopw [7, 44] (fun v iv wr => ∃ k : Nat, k ≤ 0 ∧ iv = .int .i64 k ∧ PathsLoop w1 ts k v wr) (fun _ iv _ => 0 - (intOf iv).toNat)
  case atStart => exact ⟨0, by omega, rfl, PathsLoop.start ts (Below.refl _ _)⟩
  case round =>
    obtain ⟨k, hk, rfl, hrel⟩ := hrel
    have HR := Lib.hid hrel
    clear hrel
    obtain rfl : k = 0 := by omega
    obtain ⟨a, c, vals, rfl, hac, hown⟩ := HR.out.one
    go_wp2_with fail
    go_ret2
    have hd := HR.out
    rw [← HNN.out] at hd
    have := hd.done
    rw [HNN.out, HTS.out] at this
    exact this.up HB1.out
set_option maxRecDepth 100000 in
set_option maxHeartbeats 8000000 in
theorem paths_k6 (p : Nat) (w : World) (pa to_ : List UInt8) (fd at_ n til sn : Int) (dt : List UInt8) (da : Option Addr) (dc : Nat) (hpa : pa.length < 4294967281) (hto : to_.length < 4294967281) (m : Int) (hm : w.cell? ⟨0, 0, none⟩ = some (.int .i64 m)) :
    Calls Tryz.prog 36 #[ptr p, .agg (opC ⟨6, pa, to_, fd, at_, n, til, sn, dt⟩ da dc)] w (PathsRet w (splitsM [])) := by
  obtain ⟨ie, he, hz0, hz1, hz2⟩ := info_parts info_strs
  have h0lt : 0 < w.heap.size := World.block_lt_of_cell? w _ hm
  obtain ⟨w1, hw1⟩ : ∃ w1, w1 = w.alloc (.cells (opC ⟨6, pa, to_, fd, at_, n, til, sn, dt⟩ da dc) 36) := ⟨_, rfl⟩
  have hb1 : Below w.heap.size w w1 := by rw [hw1]; exact wall w _
  have hrow : ∀ k t, ([] : List (List UInt8))[k]? = some t → w1.cell? ⟨w.heap.size + 1, k, none⟩ = some (.string (strOf t)) ∧ t.length < 4294967281 := fun k t h => by simp at h
  have HROW := Lib.hid hrow
  have HB1 := Lib.hid hb1
  have HW := Lib.hid hw1
  have HM := Lib.hid hm
  have HLT := Lib.hid h0lt
  clear hrow hb1 hw1 hm hpa hto h0lt
  unfold opC at HW
  unfold opC
  go_enter Tryz.func36, Tryz.ntmps36
  go_wp2_with fail
  rw [← HW.out]
  clear HW
  obtain ⟨ts, hts⟩ : ∃ ts : List (List UInt8), ts = [] := ⟨_, rfl⟩
  have hnn : ts.length = 0 := by rw [hts]; rfl
  rw [← hts] at HROW
  have HTS := Lib.hid hts
  clear hts
  have HNN := Lib.hid hnn
  clear hnn
  go_loopw [7, 44] (fun v iv wr => ∃ k : Nat, k ≤ 0 ∧ iv = .int .i64 k ∧ PathsLoop w1 ts k v wr) (fun _ iv _ => 0 - (intOf iv).toNat)
  case atStart => exact ⟨0, by omega, rfl, PathsLoop.start ts (Below.refl _ _)⟩
  case round =>
    obtain ⟨k, hk, rfl, hrel⟩ := hrel
    have HR := Lib.hid hrel
    clear hrel
    obtain rfl : k = 0 := by omega
    obtain ⟨a, c, vals, rfl, hac, hown⟩ := HR.out.one
    go_wp2_with fail
    go_ret2
    have hd := HR.out
    rw [← HNN.out] at hd
    have := hd.done
    rw [HNN.out, HTS.out] at this
    exact this.up HB1.out
end Go.Proofs.YtpgklnhkfgbpgaaGreatDoor
namespace Go.Proofs.YtpgklnhkfgbpgaaGreatDoor
open Go.ChangeShapes Go.WideShapes Go.ChangeAt Go.RowKit
set_option linter.unusedVariables false
set_option linter.unusedSimpArgs false

set_option maxRecDepth 100000 in
set_option maxHeartbeats 8000000 in
theorem paths_k14 (p : Nat) (w : World) (pa to_ : List UInt8) (fd at_ n til sn : Int) (dt : List UInt8) (da : Option Addr) (dc : Nat) (hpa : pa.length < 4294967281) (hto : to_.length < 4294967281) (m : Int) (hm : w.cell? ⟨0, 0, none⟩ = some (.int .i64 m)) :
    Calls Tryz.prog 36 #[ptr p, .agg (opC ⟨14, pa, to_, fd, at_, n, til, sn, dt⟩ da dc)] w (PathsRet w (splitsM [])) := by
  obtain ⟨ie, he, hz0, hz1, hz2⟩ := info_parts info_strs
  have h0lt : 0 < w.heap.size := World.block_lt_of_cell? w _ hm
  obtain ⟨w1, hw1⟩ : ∃ w1, w1 = w.alloc (.cells (opC ⟨14, pa, to_, fd, at_, n, til, sn, dt⟩ da dc) 36) := ⟨_, rfl⟩
  have hb1 : Below w.heap.size w w1 := by rw [hw1]; exact wall w _
  have hrow : ∀ k t, ([] : List (List UInt8))[k]? = some t → w1.cell? ⟨w.heap.size + 1, k, none⟩ = some (.string (strOf t)) ∧ t.length < 4294967281 := fun k t h => by simp at h
  have HROW := Lib.hid hrow
  have HB1 := Lib.hid hb1
  have HW := Lib.hid hw1
  have HM := Lib.hid hm
  have HLT := Lib.hid h0lt
  clear hrow hb1 hw1 hm hpa hto h0lt
  unfold opC at HW
  unfold opC
  go_enter Tryz.func36, Tryz.ntmps36
  go_wp2_with fail
  rw [← HW.out]
  clear HW
  obtain ⟨ts, hts⟩ : ∃ ts : List (List UInt8), ts = [] := ⟨_, rfl⟩
  have hnn : ts.length = 0 := by rw [hts]; rfl
  rw [← hts] at HROW
  have HTS := Lib.hid hts
  clear hts
  have HNN := Lib.hid hnn
  clear hnn
  go_loopw [7, 44] (fun v iv wr => ∃ k : Nat, k ≤ 0 ∧ iv = .int .i64 k ∧ PathsLoop w1 ts k v wr) (fun _ iv _ => 0 - (intOf iv).toNat)
  case atStart => exact ⟨0, by omega, rfl, PathsLoop.start ts (Below.refl _ _)⟩
  case round =>
    obtain ⟨k, hk, rfl, hrel⟩ := hrel
    have HR := Lib.hid hrel
    clear hrel
    obtain rfl : k = 0 := by omega
    obtain ⟨a, c, vals, rfl, hac, hown⟩ := HR.out.one
    go_wp2_with fail
    go_ret2
    have hd := HR.out
    rw [← HNN.out] at hd
    have := hd.done
    rw [HNN.out, HTS.out] at this
    exact this.up HB1.out
set_option maxRecDepth 100000 in
set_option maxHeartbeats 8000000 in
theorem paths_k15 (p : Nat) (w : World) (pa to_ : List UInt8) (fd at_ n til sn : Int) (dt : List UInt8) (da : Option Addr) (dc : Nat) (hpa : pa.length < 4294967281) (hto : to_.length < 4294967281) (m : Int) (hm : w.cell? ⟨0, 0, none⟩ = some (.int .i64 m)) :
    Calls Tryz.prog 36 #[ptr p, .agg (opC ⟨15, pa, to_, fd, at_, n, til, sn, dt⟩ da dc)] w (PathsRet w (splitsM [])) := by
  obtain ⟨ie, he, hz0, hz1, hz2⟩ := info_parts info_strs
  have h0lt : 0 < w.heap.size := World.block_lt_of_cell? w _ hm
  obtain ⟨w1, hw1⟩ : ∃ w1, w1 = w.alloc (.cells (opC ⟨15, pa, to_, fd, at_, n, til, sn, dt⟩ da dc) 36) := ⟨_, rfl⟩
  have hb1 : Below w.heap.size w w1 := by rw [hw1]; exact wall w _
  have hrow : ∀ k t, ([] : List (List UInt8))[k]? = some t → w1.cell? ⟨w.heap.size + 1, k, none⟩ = some (.string (strOf t)) ∧ t.length < 4294967281 := fun k t h => by simp at h
  have HROW := Lib.hid hrow
  have HB1 := Lib.hid hb1
  have HW := Lib.hid hw1
  have HM := Lib.hid hm
  have HLT := Lib.hid h0lt
  clear hrow hb1 hw1 hm hpa hto h0lt
  unfold opC at HW
  unfold opC
  go_enter Tryz.func36, Tryz.ntmps36
  go_wp2_with fail
  rw [← HW.out]
  clear HW
  obtain ⟨ts, hts⟩ : ∃ ts : List (List UInt8), ts = [] := ⟨_, rfl⟩
  have hnn : ts.length = 0 := by rw [hts]; rfl
  rw [← hts] at HROW
  have HTS := Lib.hid hts
  clear hts
  have HNN := Lib.hid hnn
  clear hnn
  go_loopw [7, 44] (fun v iv wr => ∃ k : Nat, k ≤ 0 ∧ iv = .int .i64 k ∧ PathsLoop w1 ts k v wr) (fun _ iv _ => 0 - (intOf iv).toNat)
  case atStart => exact ⟨0, by omega, rfl, PathsLoop.start ts (Below.refl _ _)⟩
  case round =>
    obtain ⟨k, hk, rfl, hrel⟩ := hrel
    have HR := Lib.hid hrel
    clear hrel
    obtain rfl : k = 0 := by omega
    obtain ⟨a, c, vals, rfl, hac, hown⟩ := HR.out.one
    go_wp2_with fail
    go_ret2
    have hd := HR.out
    rw [← HNN.out] at hd
    have := hd.done
    rw [HNN.out, HTS.out] at this
    exact this.up HB1.out
set_option maxRecDepth 100000 in
set_option maxHeartbeats 8000000 in
theorem paths_k16 (p : Nat) (w : World) (pa to_ : List UInt8) (fd at_ n til sn : Int) (dt : List UInt8) (da : Option Addr) (dc : Nat) (hpa : pa.length < 4294967281) (hto : to_.length < 4294967281) (m : Int) (hm : w.cell? ⟨0, 0, none⟩ = some (.int .i64 m)) :
    Calls Tryz.prog 36 #[ptr p, .agg (opC ⟨16, pa, to_, fd, at_, n, til, sn, dt⟩ da dc)] w (PathsRet w (splitsM [])) := by
  obtain ⟨ie, he, hz0, hz1, hz2⟩ := info_parts info_strs
  have h0lt : 0 < w.heap.size := World.block_lt_of_cell? w _ hm
  obtain ⟨w1, hw1⟩ : ∃ w1, w1 = w.alloc (.cells (opC ⟨16, pa, to_, fd, at_, n, til, sn, dt⟩ da dc) 36) := ⟨_, rfl⟩
  have hb1 : Below w.heap.size w w1 := by rw [hw1]; exact wall w _
  have hrow : ∀ k t, ([] : List (List UInt8))[k]? = some t → w1.cell? ⟨w.heap.size + 1, k, none⟩ = some (.string (strOf t)) ∧ t.length < 4294967281 := fun k t h => by simp at h
  have HROW := Lib.hid hrow
  have HB1 := Lib.hid hb1
  have HW := Lib.hid hw1
  have HM := Lib.hid hm
  have HLT := Lib.hid h0lt
  clear hrow hb1 hw1 hm hpa hto h0lt
  unfold opC at HW
  unfold opC
  go_enter Tryz.func36, Tryz.ntmps36
  go_wp2_with fail
  rw [← HW.out]
  clear HW
  obtain ⟨ts, hts⟩ : ∃ ts : List (List UInt8), ts = [] := ⟨_, rfl⟩
  have hnn : ts.length = 0 := by rw [hts]; rfl
  rw [← hts] at HROW
  have HTS := Lib.hid hts
  clear hts
  have HNN := Lib.hid hnn
  clear hnn
  go_loopw [7, 44] (fun v iv wr => ∃ k : Nat, k ≤ 0 ∧ iv = .int .i64 k ∧ PathsLoop w1 ts k v wr) (fun _ iv _ => 0 - (intOf iv).toNat)
  case atStart => exact ⟨0, by omega, rfl, PathsLoop.start ts (Below.refl _ _)⟩
  case round =>
    obtain ⟨k, hk, rfl, hrel⟩ := hrel
    have HR := Lib.hid hrel
    clear hrel
    obtain rfl : k = 0 := by omega
    obtain ⟨a, c, vals, rfl, hac, hown⟩ := HR.out.one
    go_wp2_with fail
    go_ret2
    have hd := HR.out
    rw [← HNN.out] at hd
    have := hd.done
    rw [HNN.out, HTS.out] at this
    exact this.up HB1.out
set_option maxRecDepth 100000 in
set_option maxHeartbeats 8000000 in
theorem paths_k17 (p : Nat) (w : World) (pa to_ : List UInt8) (fd at_ n til sn : Int) (dt : List UInt8) (da : Option Addr) (dc : Nat) (hpa : pa.length < 4294967281) (hto : to_.length < 4294967281) (m : Int) (hm : w.cell? ⟨0, 0, none⟩ = some (.int .i64 m)) :
    Calls Tryz.prog 36 #[ptr p, .agg (opC ⟨17, pa, to_, fd, at_, n, til, sn, dt⟩ da dc)] w (PathsRet w (splitsM [])) := by
  obtain ⟨ie, he, hz0, hz1, hz2⟩ := info_parts info_strs
  have h0lt : 0 < w.heap.size := World.block_lt_of_cell? w _ hm
  obtain ⟨w1, hw1⟩ : ∃ w1, w1 = w.alloc (.cells (opC ⟨17, pa, to_, fd, at_, n, til, sn, dt⟩ da dc) 36) := ⟨_, rfl⟩
  have hb1 : Below w.heap.size w w1 := by rw [hw1]; exact wall w _
  have hrow : ∀ k t, ([] : List (List UInt8))[k]? = some t → w1.cell? ⟨w.heap.size + 1, k, none⟩ = some (.string (strOf t)) ∧ t.length < 4294967281 := fun k t h => by simp at h
  have HROW := Lib.hid hrow
  have HB1 := Lib.hid hb1
  have HW := Lib.hid hw1
  have HM := Lib.hid hm
  have HLT := Lib.hid h0lt
  clear hrow hb1 hw1 hm hpa hto h0lt
  unfold opC at HW
  unfold opC
  go_enter Tryz.func36, Tryz.ntmps36
  go_wp2_with fail
  rw [← HW.out]
  clear HW
  obtain ⟨ts, hts⟩ : ∃ ts : List (List UInt8), ts = [] := ⟨_, rfl⟩
  have hnn : ts.length = 0 := by rw [hts]; rfl
  rw [← hts] at HROW
  have HTS := Lib.hid hts
  clear hts
  have HNN := Lib.hid hnn
  clear hnn
  go_loopw [7, 44] (fun v iv wr => ∃ k : Nat, k ≤ 0 ∧ iv = .int .i64 k ∧ PathsLoop w1 ts k v wr) (fun _ iv _ => 0 - (intOf iv).toNat)
  case atStart => exact ⟨0, by omega, rfl, PathsLoop.start ts (Below.refl _ _)⟩
  case round =>
    obtain ⟨k, hk, rfl, hrel⟩ := hrel
    have HR := Lib.hid hrel
    clear hrel
    obtain rfl : k = 0 := by omega
    obtain ⟨a, c, vals, rfl, hac, hown⟩ := HR.out.one
    go_wp2_with fail
    go_ret2
    have hd := HR.out
    rw [← HNN.out] at hd
    have := hd.done
    rw [HNN.out, HTS.out] at this
    exact this.up HB1.out
end Go.Proofs.YtpgklnhkfgbpgaaGreatDoor
namespace Go.Proofs.YtpgklnhkfgbpgaaGreatDoor
open Go.ChangeShapes Go.WideShapes Go.ChangeAt Go.RowKit
set_option linter.unusedVariables false
set_option linter.unusedSimpArgs false

set_option maxRecDepth 100000 in
set_option maxHeartbeats 8000000 in
theorem paths_bad (p : Nat) (w : World) (x : OpM) (da : Option Addr) (dc : Nat) (h : ¬ (1 ≤ x.kind ∧ x.kind ≤ 17)) :
    Calls Tryz.prog 36 #[ptr p, .agg (opC x da dc)] w (PathsRet w ([], 30)) := by
  have e1 : (x.kind == 1) = false := by simp; omega
  have e2 : (x.kind == 2) = false := by simp; omega
  have e3 : (x.kind == 3) = false := by simp; omega
  have e4 : (x.kind == 4) = false := by simp; omega
  have e5 : (x.kind == 5) = false := by simp; omega
  have e6 : (x.kind == 6) = false := by simp; omega
  have e7 : (x.kind == 7) = false := by simp; omega
  have e8 : (x.kind == 8) = false := by simp; omega
  have e9 : (x.kind == 9) = false := by simp; omega
  have e10 : (x.kind == 10) = false := by simp; omega
  have e11 : (x.kind == 11) = false := by simp; omega
  have e12 : (x.kind == 12) = false := by simp; omega
  have e13 : (x.kind == 13) = false := by simp; omega
  have e14 : (x.kind == 14) = false := by simp; omega
  have e15 : (x.kind == 15) = false := by simp; omega
  have e16 : (x.kind == 16) = false := by simp; omega
  have e17 : (x.kind == 17) = false := by simp; omega
  clear h
  unfold opC
  go_enter Tryz.func36, Tryz.ntmps36
  go_wp2_with fail
  go_ret2
  exact ⟨none, 0, 0, [], rfl, rfl, Nat.le_refl _, RowAt.nil _ _ _, ⟨rfl, fun i q hq => by simp at hq⟩, wall w _⟩
theorem paths_any (p : Nat) (w : World) (x : OpM) (da : Option Addr) (dc : Nat) (hx : OpOk x) (m : Int) (hm : w.cell? ⟨0, 0, none⟩ = some (.int .i64 m)) :
    Calls Tryz.prog 36 #[ptr p, .agg (opC x da dc)] w (PathsRet w (pathsO x)) := by
  by_cases h : 1 ≤ x.kind ∧ x.kind ≤ 17
  · obtain ⟨kd, pa, to_, fd, at_, n, til, sn, dt⟩ := x
    have h' : 1 ≤ kd ∧ kd ≤ 17 := h
    have hp : pa.length < 4294967281 := hx.wp
    have hq : to_.length < 4294967281 := hx.wq
    have e : pathsO ⟨kd, pa, to_, fd, at_, n, til, sn, dt⟩ = splitsM (opTexts ⟨kd, pa, to_, fd, at_, n, til, sn, dt⟩) := if_pos h
    rw [e]
    rcases (show kd = 1 ∨ kd = 2 ∨ kd = 3 ∨ kd = 4 ∨ kd = 5 ∨ kd = 6 ∨ kd = 7 ∨ kd = 8 ∨ kd = 9 ∨ kd = 10 ∨ kd = 11 ∨ kd = 12 ∨ kd = 13 ∨ kd = 14 ∨ kd = 15 ∨ kd = 16 ∨ kd = 17 by omega) with rfl | rfl | rfl | rfl | rfl | rfl | rfl | rfl | rfl | rfl | rfl | rfl | rfl | rfl | rfl | rfl | rfl
    · exact paths_k1 p w pa to_ fd at_ n til sn dt da dc hp hq m hm
    · exact paths_k2 p w pa to_ fd at_ n til sn dt da dc hp hq m hm
    · exact paths_k3 p w pa to_ fd at_ n til sn dt da dc hp hq m hm
    · exact paths_k4 p w pa to_ fd at_ n til sn dt da dc hp hq m hm
    · exact paths_k5 p w pa to_ fd at_ n til sn dt da dc hp hq m hm
    · exact paths_k6 p w pa to_ fd at_ n til sn dt da dc hp hq m hm
    · exact paths_k7 p w pa to_ fd at_ n til sn dt da dc hp hq m hm
    · exact paths_k8 p w pa to_ fd at_ n til sn dt da dc hp hq m hm
    · exact paths_k9 p w pa to_ fd at_ n til sn dt da dc hp hq m hm
    · exact paths_k10 p w pa to_ fd at_ n til sn dt da dc hp hq m hm
    · exact paths_k11 p w pa to_ fd at_ n til sn dt da dc hp hq m hm
    · exact paths_k12 p w pa to_ fd at_ n til sn dt da dc hp hq m hm
    · exact paths_k13 p w pa to_ fd at_ n til sn dt da dc hp hq m hm
    · exact paths_k14 p w pa to_ fd at_ n til sn dt da dc hp hq m hm
    · exact paths_k15 p w pa to_ fd at_ n til sn dt da dc hp hq m hm
    · exact paths_k16 p w pa to_ fd at_ n til sn dt da dc hp hq m hm
    · exact paths_k17 p w pa to_ fd at_ n til sn dt da dc hp hq m hm
  · have e : pathsO x = ([], 30) := if_neg h
    rw [e]
    exact paths_bad p w x da dc h
end Go.Proofs.YtpgklnhkfgbpgaaGreatDoor
