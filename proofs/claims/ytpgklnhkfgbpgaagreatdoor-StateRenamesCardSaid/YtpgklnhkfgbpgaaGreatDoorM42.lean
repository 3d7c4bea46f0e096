/- package state: Do, kinds 9 10 11 12. -/
import Derived.Test.YtpgklnhkfgbpgaaGreatDoorM39
namespace Go.Proofs.YtpgklnhkfgbpgaaGreatDoor
open Go.ChangeShapes Go.WideShapes Go.ChangeAt Go.RowKit
set_option linter.unusedVariables false
set_option linter.unusedSimpArgs false

section
variable {W w : World} {o : Mark} {i j k l n p : Nat} {M : StM}
set_option maxRecDepth 100000 in
set_option maxHeartbeats 8000000 in
theorem sdo_k9 {S : Nat → Prop} (hS : StateO o i j k w p M) (hM : Marks W o w) (hk : Mk5 i j k l n) (cc : Int) (hok : StOk cc M) (hcc : cc ≤ 1000000000) (pa to_ : List UInt8) (fd at_ nn til sn : Int) (dt : List UInt8) (hx : OpOk ⟨9, pa, to_, fd, at_, nn, til, sn, dt⟩) (da : Option Addr) (dc : Nat) (hda : RowAt S w da dt.length (dt.map bv)) (m : Int) (hm : w.cell? ⟨0, 0, none⟩ = some (.int .i64 m)) (hp : (pathsO ⟨9, pa, to_, fd, at_, nn, til, sn, dt⟩).2 = 0) :
    Calls Tryz.prog 14 #[ptr p, .agg (opC ⟨9, pa, to_, fd, at_, nn, til, sn, dt⟩ da dc)] w (DoRet o i j k l n w p (sdoM M ⟨9, pa, to_, fd, at_, nn, til, sn, dt⟩)) := by
  obtain ⟨hps0, hf0⟩ := splits_one (a := pa) hp
  have hps : pathsO ⟨9, pa, to_, fd, at_, nn, til, sn, dt⟩ = ([(pathSplit pa).1], 0) := hps0
  have hsd : sdoM M ⟨9, pa, to_, fd, at_, nn, til, sn, dt⟩ = sdoP M ⟨9, pa, to_, fd, at_, nn, til, sn, dt⟩ ((pathSplit pa).1) ([]) := by unfold sdoM; rw [hps]; rfl
  have h80 := split_few hf0
  obtain ⟨q0, hq0⟩ : ∃ q0, q0 = (pathSplit pa).1 := ⟨_, rfl⟩
  rw [← hq0] at hps hsd h80
  obtain ⟨o1, hd2⟩ := DoAt.start hk hS hM ⟨9, pa, to_, fd, at_, nn, til, sn, dt⟩ da dc
  have hb2 : Below w.heap.size w ((w.alloc (.cells (opC ⟨9, pa, to_, fd, at_, nn, til, sn, dt⟩ da dc) 36)).alloc (.cells (reC (noM 0) none none 0 0) 33)) := (wall w _).trans ((wall _ _).mono (by simp))
  obtain ⟨w2, hw2⟩ : ∃ w2, w2 = (w.alloc (.cells (opC ⟨9, pa, to_, fd, at_, nn, til, sn, dt⟩ da dc) 36)).alloc (.cells (reC (noM 0) none none 0 0) 33) := ⟨_, rfl⟩
  rw [← hw2] at hd2 hb2
  have hm2 : w2.cell? ⟨0, 0, none⟩ = some (.int .i64 m) := (hb2.cell (p := ⟨0, 0, none⟩) (World.block_lt_of_cell? w _ hm)).trans hm
  have hpc := paths_any p w2 ⟨9, pa, to_, fd, at_, nn, til, sn, dt⟩ da dc hx m hm2
  rw [hps] at hpc
  have HPC : Hid (Calls Tryz.prog 36 #[ptr p, .agg (opC ⟨9, pa, to_, fd, at_, nn, til, sn, dt⟩ da dc)] ((w.alloc (.cells (opC ⟨9, pa, to_, fd, at_, nn, til, sn, dt⟩ da dc) 36)).alloc (.cells (reC (noM 0) none none 0 0) 33)) (PathsRet w2 ([q0], 0))) := by rw [← hw2]; exact Lib.hid hpc
  unfold opC reC noM at HPC
  dsimp only [List.length_nil] at HPC
  have HSD := Lib.hid hsd
  have HOK := Lib.hid hok
  have HX := Lib.hid hx
  have HDA := Lib.hid (hda.below hb2 (Nat.le_refl _))
  have HD2 := Lib.hid hd2
  have HK := Lib.hid hk
  clear hS hM hk hok hx hda hm hp hps hsd hd2 hb2 hm2 hpc hw2 hps0 hf0 hq0
  unfold opC
  go_enter Tryz.func14, Tryz.ntmps14
  go_wp2_with fail
  (with_reducible refine HPC.out.mono ?_)
  clear HPC
  intro e w3 hpr
  obtain ⟨b, off, c3, a0, c0, rfl, hb0, hbw, hn0, hb3⟩ := hpr.one
  clear hpr
  have HD := Lib.hid (HD2.out.grow hb3)
  have HB3 := Lib.hid hb3
  have HBF : Hid (o1 b = 0 ∧ b < w3.heap.size) := ⟨Decidable.byContradiction fun h0 => by have := (HD2.out.marks.new b h0).2; omega, hbw⟩
  have hc0 := hn0.cell
  have HN0 := Lib.hid hn0
  clear hn0
  have HDA3 := Lib.hid (HDA.out.below hb3 (Nat.le_refl _))
  have g0 : w3.cell? ⟨w.heap.size, 0, none⟩ = some (.int .i64 9) := by simp [World.cell?, HD.out.op, opC]
  clear hb3 HD2 HDA
  have HDD := Lib.hid (HD.out.grow (Below.refl _ _).drew)
  have hMd := HDD.out.marks
  have HST0 := Lib.hid (HN0.out.strs.below (Below.refl _ _).drew (Nat.le_refl _))
  obtain ⟨t, z0, hT3, htr⟩ := HDD.out.callT
  have z0' : w3.cell? ⟨p, 0, none⟩ = some (ptr t) := z0
  have HTR := Lib.hid htr
  have hsd : sdoM M ⟨9, pa, to_, fd, at_, nn, til, sn, dt⟩ = (noM (rmdirM M.t q0).1, M.tr (rmdirM M.t q0).2) := HSD.out
  replace HSD := Lib.hid hsd
  clear hsd
  have HC := Lib.hid (om_rmdir hT3 hMd HK.out.mm.ne.2.1 HOK.out.t.1 a0 q0.length c0 q0 HST0.out HN0.out.cap (by omega))
  obtain ⟨rr, hrr⟩ : ∃ rr, rr = rmdirM M.t q0 := ⟨_, rfl⟩
  rw [← hrr] at HC HSD
  clear hrr htr hT3 hMd z0
  go_wp2_with fail
  refine wp_region_noPanic ?_
  refine wp_region_L (last := 9) (S := (fun w' => w'.cell? ⟨p, 0, none⟩ = some (ptr t) ∧ w'.cell? ⟨b, off, none⟩ = some (.slice a0 q0.length c0))) (by kernel_rfl) ?_ (fun hS => ?_)
  · exact ⟨z0', hc0⟩
  refine wpAnyL_take (i := 0) (oi := ?oi1) (v := ?v1) ?hi1 (by kernel_rfl) (by kernel_rfl) (by kernel_rfl) (by kernel_rfl) (by kernel_rfl) ?hq1 (Or.inl ⟨?hw1, ?hy1⟩) hS ?rest1
  case hi1 => simp only [List.getElem?_toArray, List.getElem?_cons_succ, List.getElem?_cons_zero]; rfl
  case hq1 => exact fun _ _ _ h => h
  case hw1 => rfl
  case hy1 => intro w hSw; (try dsimp only at hSw); go_simp; (try with_reducible rfl)
  try simp only [Act.put, List.setIfInBounds_toArray, List.set_cons_zero, List.set_cons_succ]
  refine wpAnyL_take (i := 1) (oi := ?oi2) (v := ?v2) ?hi2 (by kernel_rfl) (by kernel_rfl) (by kernel_rfl) (by kernel_rfl) (by kernel_rfl) ?hq2 (Or.inl ⟨?hw2, ?hy2⟩) hS ?rest2
  case hi2 => simp only [List.getElem?_toArray, List.getElem?_cons_succ, List.getElem?_cons_zero]; rfl
  case hq2 => exact fun _ _ _ h => h
  case hw2 => rfl
  case hy2 => intro w hSw; (try dsimp only at hSw); go_simp; (try with_reducible rfl)
  try simp only [Act.put, List.setIfInBounds_toArray, List.set_cons_zero, List.set_cons_succ]
  refine wpAnyL_take (i := 2) (oi := ?oi3) (v := ?v3) ?hi3 (by kernel_rfl) (by kernel_rfl) (by kernel_rfl) (by kernel_rfl) (by kernel_rfl) ?hq3 (Or.inl ⟨?hw3, ?hy3⟩) hS ?rest3
  case hi3 => simp only [List.getElem?_toArray, List.getElem?_cons_succ, List.getElem?_cons_zero]; rfl
  case hq3 => exact fun _ _ _ h => h
  case hw3 => rfl
  case hy3 => intro w hSw; (try dsimp only at hSw); go_simp; (try with_reducible rfl)
  try simp only [Act.put, List.setIfInBounds_toArray, List.set_cons_zero, List.set_cons_succ]
  refine wpAnyL_take (i := 3) (oi := ?oi4) (v := ?v4) ?hi4 (by kernel_rfl) (by kernel_rfl) (by kernel_rfl) (by kernel_rfl) (by kernel_rfl) ?hq4 (Or.inl ⟨?hw4, ?hy4⟩) hS ?rest4
  case hi4 => simp only [List.getElem?_toArray, List.getElem?_cons_succ, List.getElem?_cons_zero]; rfl
  case hq4 => exact fun _ _ _ h => h
  case hw4 => rfl
  case hy4 => intro w hSw; (try dsimp only at hSw); go_simp; (try with_reducible rfl)
  try simp only [Act.put, List.setIfInBounds_toArray, List.set_cons_zero, List.set_cons_succ]
  refine wpAnyL_take (i := 4) (oi := ?oi5) (v := ?v5) ?hi5 (by kernel_rfl) (by kernel_rfl) (by kernel_rfl) (by kernel_rfl) (by kernel_rfl) ?hq5 (Or.inl ⟨?hw5, ?hy5⟩) hS ?rest5
  case hi5 => simp only [List.getElem?_toArray, List.getElem?_cons_succ, List.getElem?_cons_zero]; rfl
  case hq5 => exact fun _ _ _ h => h
  case hw5 => rfl
  case hy5 => intro w hSw; (try dsimp only at hSw); go_simp; (try with_reducible rfl)
  try simp only [Act.put, List.setIfInBounds_toArray, List.set_cons_zero, List.set_cons_succ]
  refine wpAnyL_take (i := 5) (oi := ?oi6) (v := ?v6) ?hi6 (by kernel_rfl) (by kernel_rfl) (by kernel_rfl) (by kernel_rfl) (by kernel_rfl) ?hq6 (Or.inl ⟨?hw6, ?hy6⟩) hS ?rest6
  case hi6 => simp only [List.getElem?_toArray, List.getElem?_cons_succ, List.getElem?_cons_zero]; rfl
  case hq6 => exact fun _ _ _ h => h
  case hw6 => rfl
  case hy6 => intro w hSw; (try dsimp only at hSw); go_simp; (try with_reducible rfl)
  try simp only [Act.put, List.setIfInBounds_toArray, List.set_cons_zero, List.set_cons_succ]
  refine wpAnyL_take (i := 6) (oi := ?oi7) (v := ?v7) ?hi7 (by kernel_rfl) (by kernel_rfl) (by kernel_rfl) (by kernel_rfl) (by kernel_rfl) ?hq7 (Or.inl ⟨?hw7, ?hy7⟩) hS ?rest7
  case hi7 => simp only [List.getElem?_toArray, List.getElem?_cons_succ, List.getElem?_cons_zero]; rfl
  case hq7 => exact fun _ _ _ h => h
  case hw7 => rfl
  case hy7 => intro w hSw; (try dsimp only at hSw); go_simp; (try with_reducible rfl)
  try simp only [Act.put, List.setIfInBounds_toArray, List.set_cons_zero, List.set_cons_succ]
  refine wpAnyL_ready (rs := [7]) (by kernel_rfl) (by simp) ?_
  refine AllReadyL.cons (o := ?o8) ?ho8 (fun K hK => ?_) AllReadyL.nil
  case ho8 => simp only [List.getElem?_toArray, List.getElem?_cons_succ, List.getElem?_cons_zero]; rfl
  go_simp
  (with_reducible refine HC.out.mono ?_)
  rintro e w4 ⟨rfl, o4, hs4, hT4⟩
  obtain ⟨hd4, hp4⟩ := HTR.out _ _ _ hs4 hT4
  have HD4 := Lib.hid hd4
  have hb4 : w4.heap[b]? = w3.heap[b]? := HDD.out.stays (hs4.mono fun m hm => .inr (.inl hm)) HBF.out
  have hp4' : w4.heap[p]? = w3.heap[p]? := hp4
  clear hd4 hs4 hT4 hp4 HC
  have HS4 : Hid ((fun w' => w'.cell? ⟨p, 0, none⟩ = some (ptr t) ∧ w'.cell? ⟨b, off, none⟩ = some (.slice a0 q0.length c0)) w4) := ⟨(World.cell?_of_block hp4').trans z0', (World.cell?_of_block hb4).trans hc0⟩
  clear hb4 hp4'
  go_wp2_with fail
  refine hK.out _ _ (fun _ => HS4.out) (fun hS => ?_)
  replace hS := hS (by decide)
  clear hK K
  try simp only [Act.put, List.setIfInBounds_toArray, List.set_cons_zero, List.set_cons_succ]
  refine wpAnyL_ready (rs := [8]) (by kernel_rfl) (by simp) ?_
  refine AllReadyL.cons (o := ?o9) ?ho9 (fun K hK => ?_) AllReadyL.nil
  case ho9 => simp only [List.getElem?_toArray, List.getElem?_cons_succ, List.getElem?_cons_zero]; rfl
  go_simp
  (with_reducible refine (no_any _ _).mono ?_)
  rintro e w9 ⟨rfl, hb9⟩
  unfold noV
  have HD9 := Lib.hid (HD4.out.grow hb9)
  have HS9 : Hid ((fun w' => w'.cell? ⟨p, 0, none⟩ = some (ptr t) ∧ w'.cell? ⟨b, off, none⟩ = some (.slice a0 q0.length c0)) w9) := ⟨(hb9.cell (World.block_lt_of_cell? w4 _ HS4.out.1)).trans HS4.out.1, (hb9.cell (World.block_lt_of_cell? w4 _ HS4.out.2)).trans HS4.out.2⟩
  clear hb9
  go_wp2_with fail
  refine hK.out _ _ (fun _ => HS9.out) (fun hS => ?_)
  replace hS := hS (by decide)
  clear hK K
  try simp only [Act.put, List.setIfInBounds_toArray, List.set_cons_zero, List.set_cons_succ]
  refine wpAnyL_ready (rs := [9]) (by kernel_rfl) (by simp) ?_
  refine AllReadyL.cons (o := ?o10) ?ho10 (fun K hK => ?_) AllReadyL.nil
  case ho10 => simp only [List.getElem?_toArray, List.getElem?_cons_succ, List.getElem?_cons_zero]; rfl
  refine step_store_rep rfl 33 _ _ rfl (w.heap.size + 1) (reC (noM (rr.1)) none none 0 0) rfl rfl _ HD9.out.re repSize rfl (reC_one _ _ _ _ _) ?_
  intro w5 hs5
  have HS5 := Lib.hid hs5
  clear hs5
  refine hK.out _ _ (fun h => absurd rfl h) (fun hS => ?_)
  clear hS hK K
  try simp only [Act.put, List.setIfInBounds_toArray, List.set_cons_zero, List.set_cons_succ]
  refine wpAnyL_done (by kernel_rfl) ?_ _
  refine NoPanic.normal ?_
  go_wp2_with fail
  exact ret_rep rfl rfl rfl HS5.out.1 (by rw [HSD.out]; exact HD9.out.fin0 HS5.out rfl rfl)
set_option maxRecDepth 100000 in
set_option maxHeartbeats 8000000 in
theorem sdo_k10 {S : Nat → Prop} (hS : StateO o i j k w p M) (hM : Marks W o w) (hk : Mk5 i j k l n) (cc : Int) (hok : StOk cc M) (hcc : cc ≤ 1000000000) (pa to_ : List UInt8) (fd at_ nn til sn : Int) (dt : List UInt8) (hx : OpOk ⟨10, pa, to_, fd, at_, nn, til, sn, dt⟩) (da : Option Addr) (dc : Nat) (hda : RowAt S w da dt.length (dt.map bv)) (m : Int) (hm : w.cell? ⟨0, 0, none⟩ = some (.int .i64 m)) (hp : (pathsO ⟨10, pa, to_, fd, at_, nn, til, sn, dt⟩).2 = 0) :
    Calls Tryz.prog 14 #[ptr p, .agg (opC ⟨10, pa, to_, fd, at_, nn, til, sn, dt⟩ da dc)] w (DoRet o i j k l n w p (sdoM M ⟨10, pa, to_, fd, at_, nn, til, sn, dt⟩)) := by
  obtain ⟨hps0, hf0, hf1⟩ := splits_two (a := pa) (b := to_) hp
  have hps : pathsO ⟨10, pa, to_, fd, at_, nn, til, sn, dt⟩ = ([(pathSplit pa).1, (pathSplit to_).1], 0) := hps0
  have hsd : sdoM M ⟨10, pa, to_, fd, at_, nn, til, sn, dt⟩ = sdoP M ⟨10, pa, to_, fd, at_, nn, til, sn, dt⟩ ((pathSplit pa).1) ((pathSplit to_).1) := by unfold sdoM; rw [hps]; rfl
  have h80 := split_few hf0
  have h81 := split_few hf1
  obtain ⟨q0, hq0⟩ : ∃ q0, q0 = (pathSplit pa).1 := ⟨_, rfl⟩
  rw [← hq0] at hps hsd h80
  obtain ⟨q1, hq1⟩ : ∃ q1, q1 = (pathSplit to_).1 := ⟨_, rfl⟩
  rw [← hq1] at hps hsd h81
  obtain ⟨o1, hd2⟩ := DoAt.start hk hS hM ⟨10, pa, to_, fd, at_, nn, til, sn, dt⟩ da dc
  have hb2 : Below w.heap.size w ((w.alloc (.cells (opC ⟨10, pa, to_, fd, at_, nn, til, sn, dt⟩ da dc) 36)).alloc (.cells (reC (noM 0) none none 0 0) 33)) := (wall w _).trans ((wall _ _).mono (by simp))
  obtain ⟨w2, hw2⟩ : ∃ w2, w2 = (w.alloc (.cells (opC ⟨10, pa, to_, fd, at_, nn, til, sn, dt⟩ da dc) 36)).alloc (.cells (reC (noM 0) none none 0 0) 33) := ⟨_, rfl⟩
  rw [← hw2] at hd2 hb2
  have hm2 : w2.cell? ⟨0, 0, none⟩ = some (.int .i64 m) := (hb2.cell (p := ⟨0, 0, none⟩) (World.block_lt_of_cell? w _ hm)).trans hm
  have hpc := paths_any p w2 ⟨10, pa, to_, fd, at_, nn, til, sn, dt⟩ da dc hx m hm2
  rw [hps] at hpc
  have HPC : Hid (Calls Tryz.prog 36 #[ptr p, .agg (opC ⟨10, pa, to_, fd, at_, nn, til, sn, dt⟩ da dc)] ((w.alloc (.cells (opC ⟨10, pa, to_, fd, at_, nn, til, sn, dt⟩ da dc) 36)).alloc (.cells (reC (noM 0) none none 0 0) 33)) (PathsRet w2 ([q0, q1], 0))) := by rw [← hw2]; exact Lib.hid hpc
  unfold opC reC noM at HPC
  dsimp only [List.length_nil] at HPC
  have HSD := Lib.hid hsd
  have HOK := Lib.hid hok
  have HX := Lib.hid hx
  have HDA := Lib.hid (hda.below hb2 (Nat.le_refl _))
  have HD2 := Lib.hid hd2
  have HK := Lib.hid hk
  clear hS hM hk hok hx hda hm hp hps hsd hd2 hb2 hm2 hpc hw2 hps0 hf0 hf1 hq0 hq1
  unfold opC
  go_enter Tryz.func14, Tryz.ntmps14
  go_wp2_with fail
  (with_reducible refine HPC.out.mono ?_)
  clear HPC
  intro e w3 hpr
  obtain ⟨b, off, c3, a0, c0, a1, c1, rfl, hb0, hbw, hn0, hn1, hb3⟩ := hpr.two
  clear hpr
  have HD := Lib.hid (HD2.out.grow hb3)
  have HB3 := Lib.hid hb3
  have HBF : Hid (o1 b = 0 ∧ b < w3.heap.size) := ⟨Decidable.byContradiction fun h0 => by have := (HD2.out.marks.new b h0).2; omega, hbw⟩
  have hc0 := hn0.cell
  have HN0 := Lib.hid hn0
  clear hn0
  have hc1 := hn1.cell
  have HN1 := Lib.hid hn1
  clear hn1
  have HDA3 := Lib.hid (HDA.out.below hb3 (Nat.le_refl _))
  have g0 : w3.cell? ⟨w.heap.size, 0, none⟩ = some (.int .i64 10) := by simp [World.cell?, HD.out.op, opC]
  clear hb3 HD2 HDA
  have HDD := Lib.hid (HD.out.grow (Below.refl _ _).drew)
  have hMd := HDD.out.marks
  have HST0 := Lib.hid (HN0.out.strs.below (Below.refl _ _).drew (Nat.le_refl _))
  have HST1 := Lib.hid (HN1.out.strs.below (Below.refl _ _).drew (Nat.le_refl _))
  obtain ⟨t, z0, hT3, htr⟩ := HDD.out.callT
  have z0' : w3.cell? ⟨p, 0, none⟩ = some (ptr t) := z0
  have HTR := Lib.hid htr
  have hsd : sdoM M ⟨10, pa, to_, fd, at_, nn, til, sn, dt⟩ = (noM (renameM M.t q0 q1).1, M.tr (renameM M.t q0 q1).2) := HSD.out
  replace HSD := Lib.hid hsd
  clear hsd
  have HC := Lib.hid (om_rename hT3 hMd HK.out.mm.ne.2.1 HOK.out.t a0 q0.length c0 q0 a1 q1.length c1 q1 HST0.out HST1.out HN0.out.cap (by omega) HN1.out.cap (by omega))
  obtain ⟨rr, hrr⟩ : ∃ rr, rr = renameM M.t q0 q1 := ⟨_, rfl⟩
  rw [← hrr] at HC HSD
  clear hrr htr hT3 hMd z0
  go_wp2_with fail
  refine wp_region_noPanic ?_
  refine wp_region_L (last := 12) (S := (fun w' => w'.cell? ⟨p, 0, none⟩ = some (ptr t) ∧ w'.cell? ⟨b, off, none⟩ = some (.slice a0 q0.length c0) ∧ w'.cell? ⟨b, off + 1, none⟩ = some (.slice a1 q1.length c1))) (by kernel_rfl) ?_ (fun hS => ?_)
  · exact ⟨z0', hc0, hc1⟩
  refine wpAnyL_take (i := 0) (oi := ?oi11) (v := ?v11) ?hi11 (by kernel_rfl) (by kernel_rfl) (by kernel_rfl) (by kernel_rfl) (by kernel_rfl) ?hq11 (Or.inl ⟨?hw11, ?hy11⟩) hS ?rest11
  case hi11 => simp only [List.getElem?_toArray, List.getElem?_cons_succ, List.getElem?_cons_zero]; rfl
  case hq11 => exact fun _ _ _ h => h
  case hw11 => rfl
  case hy11 => intro w hSw; (try dsimp only at hSw); go_simp; (try with_reducible rfl)
  try simp only [Act.put, List.setIfInBounds_toArray, List.set_cons_zero, List.set_cons_succ]
  refine wpAnyL_take (i := 1) (oi := ?oi12) (v := ?v12) ?hi12 (by kernel_rfl) (by kernel_rfl) (by kernel_rfl) (by kernel_rfl) (by kernel_rfl) ?hq12 (Or.inl ⟨?hw12, ?hy12⟩) hS ?rest12
  case hi12 => simp only [List.getElem?_toArray, List.getElem?_cons_succ, List.getElem?_cons_zero]; rfl
  case hq12 => exact fun _ _ _ h => h
  case hw12 => rfl
  case hy12 => intro w hSw; (try dsimp only at hSw); go_simp; (try with_reducible rfl)
  try simp only [Act.put, List.setIfInBounds_toArray, List.set_cons_zero, List.set_cons_succ]
  refine wpAnyL_take (i := 2) (oi := ?oi13) (v := ?v13) ?hi13 (by kernel_rfl) (by kernel_rfl) (by kernel_rfl) (by kernel_rfl) (by kernel_rfl) ?hq13 (Or.inl ⟨?hw13, ?hy13⟩) hS ?rest13
  case hi13 => simp only [List.getElem?_toArray, List.getElem?_cons_succ, List.getElem?_cons_zero]; rfl
  case hq13 => exact fun _ _ _ h => h
  case hw13 => rfl
  case hy13 => intro w hSw; (try dsimp only at hSw); go_simp; (try with_reducible rfl)
  try simp only [Act.put, List.setIfInBounds_toArray, List.set_cons_zero, List.set_cons_succ]
  refine wpAnyL_take (i := 3) (oi := ?oi14) (v := ?v14) ?hi14 (by kernel_rfl) (by kernel_rfl) (by kernel_rfl) (by kernel_rfl) (by kernel_rfl) ?hq14 (Or.inl ⟨?hw14, ?hy14⟩) hS ?rest14
  case hi14 => simp only [List.getElem?_toArray, List.getElem?_cons_succ, List.getElem?_cons_zero]; rfl
  case hq14 => exact fun _ _ _ h => h
  case hw14 => rfl
  case hy14 => intro w hSw; (try dsimp only at hSw); go_simp; (try with_reducible rfl)
  try simp only [Act.put, List.setIfInBounds_toArray, List.set_cons_zero, List.set_cons_succ]
  refine wpAnyL_take (i := 4) (oi := ?oi15) (v := ?v15) ?hi15 (by kernel_rfl) (by kernel_rfl) (by kernel_rfl) (by kernel_rfl) (by kernel_rfl) ?hq15 (Or.inl ⟨?hw15, ?hy15⟩) hS ?rest15
  case hi15 => simp only [List.getElem?_toArray, List.getElem?_cons_succ, List.getElem?_cons_zero]; rfl
  case hq15 => exact fun _ _ _ h => h
  case hw15 => rfl
  case hy15 => intro w hSw; (try dsimp only at hSw); go_simp; (try with_reducible rfl)
  try simp only [Act.put, List.setIfInBounds_toArray, List.set_cons_zero, List.set_cons_succ]
  refine wpAnyL_take (i := 5) (oi := ?oi16) (v := ?v16) ?hi16 (by kernel_rfl) (by kernel_rfl) (by kernel_rfl) (by kernel_rfl) (by kernel_rfl) ?hq16 (Or.inl ⟨?hw16, ?hy16⟩) hS ?rest16
  case hi16 => simp only [List.getElem?_toArray, List.getElem?_cons_succ, List.getElem?_cons_zero]; rfl
  case hq16 => exact fun _ _ _ h => h
  case hw16 => rfl
  case hy16 => intro w hSw; (try dsimp only at hSw); go_simp; (try with_reducible rfl)
  try simp only [Act.put, List.setIfInBounds_toArray, List.set_cons_zero, List.set_cons_succ]
  refine wpAnyL_take (i := 6) (oi := ?oi17) (v := ?v17) ?hi17 (by kernel_rfl) (by kernel_rfl) (by kernel_rfl) (by kernel_rfl) (by kernel_rfl) ?hq17 (Or.inl ⟨?hw17, ?hy17⟩) hS ?rest17
  case hi17 => simp only [List.getElem?_toArray, List.getElem?_cons_succ, List.getElem?_cons_zero]; rfl
  case hq17 => exact fun _ _ _ h => h
  case hw17 => rfl
  case hy17 => intro w hSw; (try dsimp only at hSw); go_simp; (try with_reducible rfl)
  try simp only [Act.put, List.setIfInBounds_toArray, List.set_cons_zero, List.set_cons_succ]
  refine wpAnyL_take (i := 7) (oi := ?oi18) (v := ?v18) ?hi18 (by kernel_rfl) (by kernel_rfl) (by kernel_rfl) (by kernel_rfl) (by kernel_rfl) ?hq18 (Or.inl ⟨?hw18, ?hy18⟩) hS ?rest18
  case hi18 => simp only [List.getElem?_toArray, List.getElem?_cons_succ, List.getElem?_cons_zero]; rfl
  case hq18 => exact fun _ _ _ h => h
  case hw18 => rfl
  case hy18 => intro w hSw; (try dsimp only at hSw); go_simp; (try with_reducible rfl)
  try simp only [Act.put, List.setIfInBounds_toArray, List.set_cons_zero, List.set_cons_succ]
  refine wpAnyL_take (i := 8) (oi := ?oi19) (v := ?v19) ?hi19 (by kernel_rfl) (by kernel_rfl) (by kernel_rfl) (by kernel_rfl) (by kernel_rfl) ?hq19 (Or.inl ⟨?hw19, ?hy19⟩) hS ?rest19
  case hi19 => simp only [List.getElem?_toArray, List.getElem?_cons_succ, List.getElem?_cons_zero]; rfl
  case hq19 => exact fun _ _ _ h => h
  case hw19 => rfl
  case hy19 => intro w hSw; (try dsimp only at hSw); go_simp; (try with_reducible rfl)
  try simp only [Act.put, List.setIfInBounds_toArray, List.set_cons_zero, List.set_cons_succ]
  refine wpAnyL_take (i := 9) (oi := ?oi20) (v := ?v20) ?hi20 (by kernel_rfl) (by kernel_rfl) (by kernel_rfl) (by kernel_rfl) (by kernel_rfl) ?hq20 (Or.inl ⟨?hw20, ?hy20⟩) hS ?rest20
  case hi20 => simp only [List.getElem?_toArray, List.getElem?_cons_succ, List.getElem?_cons_zero]; rfl
  case hq20 => exact fun _ _ _ h => h
  case hw20 => rfl
  case hy20 => intro w hSw; (try dsimp only at hSw); go_simp; (try with_reducible rfl)
  try simp only [Act.put, List.setIfInBounds_toArray, List.set_cons_zero, List.set_cons_succ]
  refine wpAnyL_ready (rs := [10]) (by kernel_rfl) (by simp) ?_
  refine AllReadyL.cons (o := ?o21) ?ho21 (fun K hK => ?_) AllReadyL.nil
  case ho21 => simp only [List.getElem?_toArray, List.getElem?_cons_succ, List.getElem?_cons_zero]; rfl
  go_simp
  (with_reducible refine HC.out.mono ?_)
  rintro e w4 ⟨rfl, o4, hs4, hT4⟩
  obtain ⟨hd4, hp4⟩ := HTR.out _ _ _ hs4 hT4
  have HD4 := Lib.hid hd4
  have hb4 : w4.heap[b]? = w3.heap[b]? := HDD.out.stays (hs4.mono fun m hm => .inr (.inl hm)) HBF.out
  have hp4' : w4.heap[p]? = w3.heap[p]? := hp4
  clear hd4 hs4 hT4 hp4 HC
  have HS4 : Hid ((fun w' => w'.cell? ⟨p, 0, none⟩ = some (ptr t) ∧ w'.cell? ⟨b, off, none⟩ = some (.slice a0 q0.length c0) ∧ w'.cell? ⟨b, off + 1, none⟩ = some (.slice a1 q1.length c1)) w4) := ⟨(World.cell?_of_block hp4').trans z0', (World.cell?_of_block hb4).trans hc0, (World.cell?_of_block hb4).trans hc1⟩
  clear hb4 hp4'
  go_wp2_with fail
  refine hK.out _ _ (fun _ => HS4.out) (fun hS => ?_)
  replace hS := hS (by decide)
  clear hK K
  try simp only [Act.put, List.setIfInBounds_toArray, List.set_cons_zero, List.set_cons_succ]
  refine wpAnyL_ready (rs := [11]) (by kernel_rfl) (by simp) ?_
  refine AllReadyL.cons (o := ?o22) ?ho22 (fun K hK => ?_) AllReadyL.nil
  case ho22 => simp only [List.getElem?_toArray, List.getElem?_cons_succ, List.getElem?_cons_zero]; rfl
  go_simp
  (with_reducible refine (no_any _ _).mono ?_)
  rintro e w9 ⟨rfl, hb9⟩
  unfold noV
  have HD9 := Lib.hid (HD4.out.grow hb9)
  have HS9 : Hid ((fun w' => w'.cell? ⟨p, 0, none⟩ = some (ptr t) ∧ w'.cell? ⟨b, off, none⟩ = some (.slice a0 q0.length c0) ∧ w'.cell? ⟨b, off + 1, none⟩ = some (.slice a1 q1.length c1)) w9) := ⟨(hb9.cell (World.block_lt_of_cell? w4 _ HS4.out.1)).trans HS4.out.1, (hb9.cell (World.block_lt_of_cell? w4 _ HS4.out.2.1)).trans HS4.out.2.1, (hb9.cell (World.block_lt_of_cell? w4 _ HS4.out.2.2)).trans HS4.out.2.2⟩
  clear hb9
  go_wp2_with fail
  refine hK.out _ _ (fun _ => HS9.out) (fun hS => ?_)
  replace hS := hS (by decide)
  clear hK K
  try simp only [Act.put, List.setIfInBounds_toArray, List.set_cons_zero, List.set_cons_succ]
  refine wpAnyL_ready (rs := [12]) (by kernel_rfl) (by simp) ?_
  refine AllReadyL.cons (o := ?o23) ?ho23 (fun K hK => ?_) AllReadyL.nil
  case ho23 => simp only [List.getElem?_toArray, List.getElem?_cons_succ, List.getElem?_cons_zero]; rfl
  refine step_store_rep rfl 33 _ _ rfl (w.heap.size + 1) (reC (noM (rr.1)) none none 0 0) rfl rfl _ HD9.out.re repSize rfl (reC_one _ _ _ _ _) ?_
  intro w5 hs5
  have HS5 := Lib.hid hs5
  clear hs5
  refine hK.out _ _ (fun h => absurd rfl h) (fun hS => ?_)
  clear hS hK K
  try simp only [Act.put, List.setIfInBounds_toArray, List.set_cons_zero, List.set_cons_succ]
  refine wpAnyL_done (by kernel_rfl) ?_ _
  refine NoPanic.normal ?_
  go_wp2_with fail
  exact ret_rep rfl rfl rfl HS5.out.1 (by rw [HSD.out]; exact HD9.out.fin0 HS5.out rfl rfl)
set_option maxRecDepth 100000 in
set_option maxHeartbeats 8000000 in
theorem sdo_k11 {S : Nat → Prop} (hS : StateO o i j k w p M) (hM : Marks W o w) (hk : Mk5 i j k l n) (cc : Int) (hok : StOk cc M) (hcc : cc ≤ 1000000000) (pa to_ : List UInt8) (fd at_ nn til sn : Int) (dt : List UInt8) (hx : OpOk ⟨11, pa, to_, fd, at_, nn, til, sn, dt⟩) (da : Option Addr) (dc : Nat) (hda : RowAt S w da dt.length (dt.map bv)) (m : Int) (hm : w.cell? ⟨0, 0, none⟩ = some (.int .i64 m)) (hp : (pathsO ⟨11, pa, to_, fd, at_, nn, til, sn, dt⟩).2 = 0) :
    Calls Tryz.prog 14 #[ptr p, .agg (opC ⟨11, pa, to_, fd, at_, nn, til, sn, dt⟩ da dc)] w (DoRet o i j k l n w p (sdoM M ⟨11, pa, to_, fd, at_, nn, til, sn, dt⟩)) := by
  obtain ⟨hps0, hf0⟩ := splits_one (a := pa) hp
  have hps : pathsO ⟨11, pa, to_, fd, at_, nn, til, sn, dt⟩ = ([(pathSplit pa).1], 0) := hps0
  have hsd : sdoM M ⟨11, pa, to_, fd, at_, nn, til, sn, dt⟩ = sdoP M ⟨11, pa, to_, fd, at_, nn, til, sn, dt⟩ ((pathSplit pa).1) ([]) := by unfold sdoM; rw [hps]; rfl
  have h80 := split_few hf0
  obtain ⟨q0, hq0⟩ : ∃ q0, q0 = (pathSplit pa).1 := ⟨_, rfl⟩
  rw [← hq0] at hps hsd h80
  obtain ⟨o1, hd2⟩ := DoAt.start hk hS hM ⟨11, pa, to_, fd, at_, nn, til, sn, dt⟩ da dc
  have hb2 : Below w.heap.size w ((w.alloc (.cells (opC ⟨11, pa, to_, fd, at_, nn, til, sn, dt⟩ da dc) 36)).alloc (.cells (reC (noM 0) none none 0 0) 33)) := (wall w _).trans ((wall _ _).mono (by simp))
  obtain ⟨w2, hw2⟩ : ∃ w2, w2 = (w.alloc (.cells (opC ⟨11, pa, to_, fd, at_, nn, til, sn, dt⟩ da dc) 36)).alloc (.cells (reC (noM 0) none none 0 0) 33) := ⟨_, rfl⟩
  rw [← hw2] at hd2 hb2
  have hm2 : w2.cell? ⟨0, 0, none⟩ = some (.int .i64 m) := (hb2.cell (p := ⟨0, 0, none⟩) (World.block_lt_of_cell? w _ hm)).trans hm
  have hpc := paths_any p w2 ⟨11, pa, to_, fd, at_, nn, til, sn, dt⟩ da dc hx m hm2
  rw [hps] at hpc
  have HPC : Hid (Calls Tryz.prog 36 #[ptr p, .agg (opC ⟨11, pa, to_, fd, at_, nn, til, sn, dt⟩ da dc)] ((w.alloc (.cells (opC ⟨11, pa, to_, fd, at_, nn, til, sn, dt⟩ da dc) 36)).alloc (.cells (reC (noM 0) none none 0 0) 33)) (PathsRet w2 ([q0], 0))) := by rw [← hw2]; exact Lib.hid hpc
  unfold opC reC noM at HPC
  dsimp only [List.length_nil] at HPC
  have HSD := Lib.hid hsd
  have HOK := Lib.hid hok
  have HX := Lib.hid hx
  have HDA := Lib.hid (hda.below hb2 (Nat.le_refl _))
  have HD2 := Lib.hid hd2
  have HK := Lib.hid hk
  clear hS hM hk hok hx hda hm hp hps hsd hd2 hb2 hm2 hpc hw2 hps0 hf0 hq0
  unfold opC
  go_enter Tryz.func14, Tryz.ntmps14
  go_wp2_with fail
  (with_reducible refine HPC.out.mono ?_)
  clear HPC
  intro e w3 hpr
  obtain ⟨b, off, c3, a0, c0, rfl, hb0, hbw, hn0, hb3⟩ := hpr.one
  clear hpr
  have HD := Lib.hid (HD2.out.grow hb3)
  have HB3 := Lib.hid hb3
  have HBF : Hid (o1 b = 0 ∧ b < w3.heap.size) := ⟨Decidable.byContradiction fun h0 => by have := (HD2.out.marks.new b h0).2; omega, hbw⟩
  have hc0 := hn0.cell
  have HN0 := Lib.hid hn0
  clear hn0
  have HDA3 := Lib.hid (HDA.out.below hb3 (Nat.le_refl _))
  have g0 : w3.cell? ⟨w.heap.size, 0, none⟩ = some (.int .i64 11) := by simp [World.cell?, HD.out.op, opC]
  clear hb3 HD2 HDA
  have HDD := Lib.hid (HD.out.grow (Below.refl _ _).drew)
  have hMd := HDD.out.marks
  have HST0 := Lib.hid (HN0.out.strs.below (Below.refl _ _).drew (Nat.le_refl _))
  have hsd : sdoM M ⟨11, pa, to_, fd, at_, nn, til, sn, dt⟩ = (slookM M ⟨11, pa, to_, fd, at_, nn, til, sn, dt⟩ q0, M) := HSD.out
  replace HSD := Lib.hid hsd
  clear hsd
  have HC := Lib.hid (slook_any HDD.out.st hMd HOK.out.t.1 (by have := HOK.out.s.few; omega) ⟨11, pa, to_, fd, at_, nn, til, sn, dt⟩ da dc a0 q0.length c0 q0 HST0.out (fun T hT => look_wf (HOK.out.treeAt hT).1 q0))
  obtain ⟨rr, hrr⟩ : ∃ rr, rr = slookM M ⟨11, pa, to_, fd, at_, nn, til, sn, dt⟩ q0 := ⟨_, rfl⟩
  unfold opC at HC
  have g1 : w3.cell? ⟨w.heap.size, 1, none⟩ = some (.string (strOf pa)) := by simp [World.cell?, HD.out.op, opC]
  have g2 : w3.cell? ⟨w.heap.size, 2, none⟩ = some (.string (strOf to_)) := by simp [World.cell?, HD.out.op, opC]
  have g3 : w3.cell? ⟨w.heap.size, 3, none⟩ = some (.int .i64 fd) := by simp [World.cell?, HD.out.op, opC]
  have g4 : w3.cell? ⟨w.heap.size, 4, none⟩ = some (.int .i64 at_) := by simp [World.cell?, HD.out.op, opC]
  have g5 : w3.cell? ⟨w.heap.size, 5, none⟩ = some (.int .i64 nn) := by simp [World.cell?, HD.out.op, opC]
  have g6 : w3.cell? ⟨w.heap.size, 6, none⟩ = some (.int .u64 til) := by simp [World.cell?, HD.out.op, opC]
  have g7 : w3.cell? ⟨w.heap.size, 7, none⟩ = some (.int .i64 sn) := by simp [World.cell?, HD.out.op, opC]
  have g8 : w3.cell? ⟨w.heap.size, 8, none⟩ = some (.slice da dt.length dc) := by simp [World.cell?, HD.out.op, opC]
  rw [← hrr] at HC HSD
  clear hrr hMd
  go_wp2_with fail
  refine wp_region_noPanic ?_
  refine wp_region_L (last := 6) (S := (fun w' => w'.cell? ⟨b, off, none⟩ = some (.slice a0 q0.length c0) ∧ w'.cell? ⟨w.heap.size, 0, none⟩ = some (.int .i64 11) ∧ w'.cell? ⟨w.heap.size, 1, none⟩ = some (.string (strOf pa)) ∧ w'.cell? ⟨w.heap.size, 2, none⟩ = some (.string (strOf to_)) ∧ w'.cell? ⟨w.heap.size, 3, none⟩ = some (.int .i64 fd) ∧ w'.cell? ⟨w.heap.size, 4, none⟩ = some (.int .i64 at_) ∧ w'.cell? ⟨w.heap.size, 5, none⟩ = some (.int .i64 nn) ∧ w'.cell? ⟨w.heap.size, 6, none⟩ = some (.int .u64 til) ∧ w'.cell? ⟨w.heap.size, 7, none⟩ = some (.int .i64 sn) ∧ w'.cell? ⟨w.heap.size, 8, none⟩ = some (.slice da dt.length dc))) (by kernel_rfl) ?_ (fun hS => ?_)
  · exact ⟨hc0, g0, g1, g2, g3, g4, g5, g6, g7, g8⟩
  refine wpAnyL_take (i := 0) (oi := ?oi24) (v := ?v24) ?hi24 (by kernel_rfl) (by kernel_rfl) (by kernel_rfl) (by kernel_rfl) (by kernel_rfl) ?hq24 (Or.inl ⟨?hw24, ?hy24⟩) hS ?rest24
  case hi24 => simp only [List.getElem?_toArray, List.getElem?_cons_succ, List.getElem?_cons_zero]; rfl
  case hq24 => exact fun _ _ _ h => h
  case hw24 => rfl
  case hy24 => intro w hSw; (try dsimp only at hSw); go_simp; (try with_reducible rfl)
  try simp only [Act.put, List.setIfInBounds_toArray, List.set_cons_zero, List.set_cons_succ]
  refine wpAnyL_take (i := 1) (oi := ?oi25) (v := ?v25) ?hi25 (by kernel_rfl) (by kernel_rfl) (by kernel_rfl) (by kernel_rfl) (by kernel_rfl) ?hq25 (Or.inl ⟨?hw25, ?hy25⟩) hS ?rest25
  case hi25 => simp only [List.getElem?_toArray, List.getElem?_cons_succ, List.getElem?_cons_zero]; rfl
  case hq25 => exact fun _ _ _ h => h
  case hw25 => rfl
  case hy25 => intro w hSw; (try dsimp only at hSw); go_simp; (try with_reducible rfl)
  try simp only [Act.put, List.setIfInBounds_toArray, List.set_cons_zero, List.set_cons_succ]
  refine wpAnyL_take (i := 2) (oi := ?oi26) (v := ?v26) ?hi26 (by kernel_rfl) (by kernel_rfl) (by kernel_rfl) (by kernel_rfl) (by kernel_rfl) ?hq26 (Or.inl ⟨?hw26, ?hy26⟩) hS ?rest26
  case hi26 => simp only [List.getElem?_toArray, List.getElem?_cons_succ, List.getElem?_cons_zero]; rfl
  case hq26 => exact fun _ _ _ h => h
  case hw26 => rfl
  case hy26 => intro w hSw; (try dsimp only at hSw); go_simp; (try with_reducible rfl)
  try simp only [Act.put, List.setIfInBounds_toArray, List.set_cons_zero, List.set_cons_succ]
  refine wpAnyL_take (i := 3) (oi := ?oi27) (v := ?v27) ?hi27 (by kernel_rfl) (by kernel_rfl) (by kernel_rfl) (by kernel_rfl) (by kernel_rfl) ?hq27 (Or.inl ⟨?hw27, ?hy27⟩) hS ?rest27
  case hi27 => simp only [List.getElem?_toArray, List.getElem?_cons_succ, List.getElem?_cons_zero]; rfl
  case hq27 => exact fun _ _ _ h => h
  case hw27 => rfl
  case hy27 => intro w hSw; (try dsimp only at hSw); go_simp; (try with_reducible rfl)
  try simp only [Act.put, List.setIfInBounds_toArray, List.set_cons_zero, List.set_cons_succ]
  refine wpAnyL_take (i := 4) (oi := ?oi28) (v := ?v28) ?hi28 (by kernel_rfl) (by kernel_rfl) (by kernel_rfl) (by kernel_rfl) (by kernel_rfl) ?hq28 (Or.inl ⟨?hw28, ?hy28⟩) hS ?rest28
  case hi28 => simp only [List.getElem?_toArray, List.getElem?_cons_succ, List.getElem?_cons_zero]; rfl
  case hq28 => exact fun _ _ _ h => h
  case hw28 => rfl
  case hy28 => intro w hSw; (try dsimp only at hSw); go_simp; (try with_reducible rfl)
  try simp only [Act.put, List.setIfInBounds_toArray, List.set_cons_zero, List.set_cons_succ]
  refine wpAnyL_ready (rs := [5]) (by kernel_rfl) (by simp) ?_
  refine AllReadyL.cons (o := ?o29) ?ho29 (fun K hK => ?_) AllReadyL.nil
  case ho29 => simp only [List.getElem?_toArray, List.getElem?_cons_succ, List.getElem?_cons_zero]; rfl
  go_simp
  (with_reducible refine HC.out.mono ?_)
  rintro e w4 ⟨⟨v4, rfl, da4, la4, dc4, lc4, rfl, k1, k2, k3, k4⟩, hb4⟩
  have HD4 := Lib.hid (HDD.out.grow hb4)
  have HK4 := Lib.hid (And.intro k1 (And.intro k2 (And.intro k3 k4)))
  have hb4' : w4.heap[b]? = w3.heap[b]? := hb4.block b HBF.out.2
  have ho4 : w4.heap[w.heap.size]? = w3.heap[w.heap.size]? := hb4.block _ HDD.out.opb.2
  clear k1 k2 k3 k4 HC
  have HS4 : Hid ((fun w' => w'.cell? ⟨b, off, none⟩ = some (.slice a0 q0.length c0) ∧ w'.cell? ⟨w.heap.size, 0, none⟩ = some (.int .i64 11) ∧ w'.cell? ⟨w.heap.size, 1, none⟩ = some (.string (strOf pa)) ∧ w'.cell? ⟨w.heap.size, 2, none⟩ = some (.string (strOf to_)) ∧ w'.cell? ⟨w.heap.size, 3, none⟩ = some (.int .i64 fd) ∧ w'.cell? ⟨w.heap.size, 4, none⟩ = some (.int .i64 at_) ∧ w'.cell? ⟨w.heap.size, 5, none⟩ = some (.int .i64 nn) ∧ w'.cell? ⟨w.heap.size, 6, none⟩ = some (.int .u64 til) ∧ w'.cell? ⟨w.heap.size, 7, none⟩ = some (.int .i64 sn) ∧ w'.cell? ⟨w.heap.size, 8, none⟩ = some (.slice da dt.length dc)) w4) := ⟨(World.cell?_of_block hb4').trans hc0, (World.cell?_of_block ho4).trans g0, (World.cell?_of_block ho4).trans g1, (World.cell?_of_block ho4).trans g2, (World.cell?_of_block ho4).trans g3, (World.cell?_of_block ho4).trans g4, (World.cell?_of_block ho4).trans g5, (World.cell?_of_block ho4).trans g6, (World.cell?_of_block ho4).trans g7, (World.cell?_of_block ho4).trans g8⟩
  clear hb4 ho4
  go_wp2_with fail
  refine hK.out _ _ (fun _ => HS4.out) (fun hS => ?_)
  replace hS := hS (by decide)
  clear hK K
  try simp only [Act.put, List.setIfInBounds_toArray, List.set_cons_zero, List.set_cons_succ]
  refine wpAnyL_ready (rs := [6]) (by kernel_rfl) (by simp) ?_
  refine AllReadyL.cons (o := ?o30) ?ho30 (fun K hK => ?_) AllReadyL.nil
  case ho30 => simp only [List.getElem?_toArray, List.getElem?_cons_succ, List.getElem?_cons_zero]; rfl
  refine step_store_rep rfl 33 _ _ rfl (w.heap.size + 1) (reC (rr) da4 la4 dc4 lc4) rfl rfl _ HD4.out.re repSize rfl (reC_one _ _ _ _ _) ?_
  intro w5 hs5
  have HS5 := Lib.hid hs5
  clear hs5
  refine hK.out _ _ (fun h => absurd rfl h) (fun hS => ?_)
  clear hS hK K
  try simp only [Act.put, List.setIfInBounds_toArray, List.set_cons_zero, List.set_cons_succ]
  refine wpAnyL_done (by kernel_rfl) ?_ _
  refine NoPanic.normal ?_
  go_wp2_with fail
  exact ret_rep rfl rfl rfl HS5.out.1 (by rw [HSD.out]; exact HD4.out.fin HS5.out HK4.out.1 HK4.out.2.1 HK4.out.2.2.1 HK4.out.2.2.2)
set_option maxRecDepth 100000 in
set_option maxHeartbeats 8000000 in
theorem sdo_k12 {S : Nat → Prop} (hS : StateO o i j k w p M) (hM : Marks W o w) (hk : Mk5 i j k l n) (cc : Int) (hok : StOk cc M) (hcc : cc ≤ 1000000000) (pa to_ : List UInt8) (fd at_ nn til sn : Int) (dt : List UInt8) (hx : OpOk ⟨12, pa, to_, fd, at_, nn, til, sn, dt⟩) (da : Option Addr) (dc : Nat) (hda : RowAt S w da dt.length (dt.map bv)) (m : Int) (hm : w.cell? ⟨0, 0, none⟩ = some (.int .i64 m)) (hp : (pathsO ⟨12, pa, to_, fd, at_, nn, til, sn, dt⟩).2 = 0) :
    Calls Tryz.prog 14 #[ptr p, .agg (opC ⟨12, pa, to_, fd, at_, nn, til, sn, dt⟩ da dc)] w (DoRet o i j k l n w p (sdoM M ⟨12, pa, to_, fd, at_, nn, til, sn, dt⟩)) := by
  obtain ⟨hps0, hf0⟩ := splits_one (a := pa) hp
  have hps : pathsO ⟨12, pa, to_, fd, at_, nn, til, sn, dt⟩ = ([(pathSplit pa).1], 0) := hps0
  have hsd : sdoM M ⟨12, pa, to_, fd, at_, nn, til, sn, dt⟩ = sdoP M ⟨12, pa, to_, fd, at_, nn, til, sn, dt⟩ ((pathSplit pa).1) ([]) := by unfold sdoM; rw [hps]; rfl
  have h80 := split_few hf0
  obtain ⟨q0, hq0⟩ : ∃ q0, q0 = (pathSplit pa).1 := ⟨_, rfl⟩
  rw [← hq0] at hps hsd h80
  obtain ⟨o1, hd2⟩ := DoAt.start hk hS hM ⟨12, pa, to_, fd, at_, nn, til, sn, dt⟩ da dc
  have hb2 : Below w.heap.size w ((w.alloc (.cells (opC ⟨12, pa, to_, fd, at_, nn, til, sn, dt⟩ da dc) 36)).alloc (.cells (reC (noM 0) none none 0 0) 33)) := (wall w _).trans ((wall _ _).mono (by simp))
  obtain ⟨w2, hw2⟩ : ∃ w2, w2 = (w.alloc (.cells (opC ⟨12, pa, to_, fd, at_, nn, til, sn, dt⟩ da dc) 36)).alloc (.cells (reC (noM 0) none none 0 0) 33) := ⟨_, rfl⟩
  rw [← hw2] at hd2 hb2
  have hm2 : w2.cell? ⟨0, 0, none⟩ = some (.int .i64 m) := (hb2.cell (p := ⟨0, 0, none⟩) (World.block_lt_of_cell? w _ hm)).trans hm
  have hpc := paths_any p w2 ⟨12, pa, to_, fd, at_, nn, til, sn, dt⟩ da dc hx m hm2
  rw [hps] at hpc
  have HPC : Hid (Calls Tryz.prog 36 #[ptr p, .agg (opC ⟨12, pa, to_, fd, at_, nn, til, sn, dt⟩ da dc)] ((w.alloc (.cells (opC ⟨12, pa, to_, fd, at_, nn, til, sn, dt⟩ da dc) 36)).alloc (.cells (reC (noM 0) none none 0 0) 33)) (PathsRet w2 ([q0], 0))) := by rw [← hw2]; exact Lib.hid hpc
  unfold opC reC noM at HPC
  dsimp only [List.length_nil] at HPC
  have HSD := Lib.hid hsd
  have HOK := Lib.hid hok
  have HX := Lib.hid hx
  have HDA := Lib.hid (hda.below hb2 (Nat.le_refl _))
  have HD2 := Lib.hid hd2
  have HK := Lib.hid hk
  clear hS hM hk hok hx hda hm hp hps hsd hd2 hb2 hm2 hpc hw2 hps0 hf0 hq0
  unfold opC
  go_enter Tryz.func14, Tryz.ntmps14
  go_wp2_with fail
  (with_reducible refine HPC.out.mono ?_)
  clear HPC
  intro e w3 hpr
  obtain ⟨b, off, c3, a0, c0, rfl, hb0, hbw, hn0, hb3⟩ := hpr.one
  clear hpr
  have HD := Lib.hid (HD2.out.grow hb3)
  have HB3 := Lib.hid hb3
  have HBF : Hid (o1 b = 0 ∧ b < w3.heap.size) := ⟨Decidable.byContradiction fun h0 => by have := (HD2.out.marks.new b h0).2; omega, hbw⟩
  have hc0 := hn0.cell
  have HN0 := Lib.hid hn0
  clear hn0
  have HDA3 := Lib.hid (HDA.out.below hb3 (Nat.le_refl _))
  have g0 : w3.cell? ⟨w.heap.size, 0, none⟩ = some (.int .i64 12) := by simp [World.cell?, HD.out.op, opC]
  clear hb3 HD2 HDA
  have HDD := Lib.hid (HD.out.grow (Below.refl _ _).drew)
  have hMd := HDD.out.marks
  have HST0 := Lib.hid (HN0.out.strs.below (Below.refl _ _).drew (Nat.le_refl _))
  have hsd : sdoM M ⟨12, pa, to_, fd, at_, nn, til, sn, dt⟩ = (slookM M ⟨12, pa, to_, fd, at_, nn, til, sn, dt⟩ q0, M) := HSD.out
  replace HSD := Lib.hid hsd
  clear hsd
  have HC := Lib.hid (slook_any HDD.out.st hMd HOK.out.t.1 (by have := HOK.out.s.few; omega) ⟨12, pa, to_, fd, at_, nn, til, sn, dt⟩ da dc a0 q0.length c0 q0 HST0.out (fun T hT => look_wf (HOK.out.treeAt hT).1 q0))
  obtain ⟨rr, hrr⟩ : ∃ rr, rr = slookM M ⟨12, pa, to_, fd, at_, nn, til, sn, dt⟩ q0 := ⟨_, rfl⟩
  unfold opC at HC
  have g1 : w3.cell? ⟨w.heap.size, 1, none⟩ = some (.string (strOf pa)) := by simp [World.cell?, HD.out.op, opC]
  have g2 : w3.cell? ⟨w.heap.size, 2, none⟩ = some (.string (strOf to_)) := by simp [World.cell?, HD.out.op, opC]
  have g3 : w3.cell? ⟨w.heap.size, 3, none⟩ = some (.int .i64 fd) := by simp [World.cell?, HD.out.op, opC]
  have g4 : w3.cell? ⟨w.heap.size, 4, none⟩ = some (.int .i64 at_) := by simp [World.cell?, HD.out.op, opC]
  have g5 : w3.cell? ⟨w.heap.size, 5, none⟩ = some (.int .i64 nn) := by simp [World.cell?, HD.out.op, opC]
  have g6 : w3.cell? ⟨w.heap.size, 6, none⟩ = some (.int .u64 til) := by simp [World.cell?, HD.out.op, opC]
  have g7 : w3.cell? ⟨w.heap.size, 7, none⟩ = some (.int .i64 sn) := by simp [World.cell?, HD.out.op, opC]
  have g8 : w3.cell? ⟨w.heap.size, 8, none⟩ = some (.slice da dt.length dc) := by simp [World.cell?, HD.out.op, opC]
  rw [← hrr] at HC HSD
  clear hrr hMd
  go_wp2_with fail
  refine wp_region_noPanic ?_
  refine wp_region_L (last := 6) (S := (fun w' => w'.cell? ⟨b, off, none⟩ = some (.slice a0 q0.length c0) ∧ w'.cell? ⟨w.heap.size, 0, none⟩ = some (.int .i64 12) ∧ w'.cell? ⟨w.heap.size, 1, none⟩ = some (.string (strOf pa)) ∧ w'.cell? ⟨w.heap.size, 2, none⟩ = some (.string (strOf to_)) ∧ w'.cell? ⟨w.heap.size, 3, none⟩ = some (.int .i64 fd) ∧ w'.cell? ⟨w.heap.size, 4, none⟩ = some (.int .i64 at_) ∧ w'.cell? ⟨w.heap.size, 5, none⟩ = some (.int .i64 nn) ∧ w'.cell? ⟨w.heap.size, 6, none⟩ = some (.int .u64 til) ∧ w'.cell? ⟨w.heap.size, 7, none⟩ = some (.int .i64 sn) ∧ w'.cell? ⟨w.heap.size, 8, none⟩ = some (.slice da dt.length dc))) (by kernel_rfl) ?_ (fun hS => ?_)
  · exact ⟨hc0, g0, g1, g2, g3, g4, g5, g6, g7, g8⟩
  refine wpAnyL_take (i := 0) (oi := ?oi31) (v := ?v31) ?hi31 (by kernel_rfl) (by kernel_rfl) (by kernel_rfl) (by kernel_rfl) (by kernel_rfl) ?hq31 (Or.inl ⟨?hw31, ?hy31⟩) hS ?rest31
  case hi31 => simp only [List.getElem?_toArray, List.getElem?_cons_succ, List.getElem?_cons_zero]; rfl
  case hq31 => exact fun _ _ _ h => h
  case hw31 => rfl
  case hy31 => intro w hSw; (try dsimp only at hSw); go_simp; (try with_reducible rfl)
  try simp only [Act.put, List.setIfInBounds_toArray, List.set_cons_zero, List.set_cons_succ]
  refine wpAnyL_take (i := 1) (oi := ?oi32) (v := ?v32) ?hi32 (by kernel_rfl) (by kernel_rfl) (by kernel_rfl) (by kernel_rfl) (by kernel_rfl) ?hq32 (Or.inl ⟨?hw32, ?hy32⟩) hS ?rest32
  case hi32 => simp only [List.getElem?_toArray, List.getElem?_cons_succ, List.getElem?_cons_zero]; rfl
  case hq32 => exact fun _ _ _ h => h
  case hw32 => rfl
  case hy32 => intro w hSw; (try dsimp only at hSw); go_simp; (try with_reducible rfl)
  try simp only [Act.put, List.setIfInBounds_toArray, List.set_cons_zero, List.set_cons_succ]
  refine wpAnyL_take (i := 2) (oi := ?oi33) (v := ?v33) ?hi33 (by kernel_rfl) (by kernel_rfl) (by kernel_rfl) (by kernel_rfl) (by kernel_rfl) ?hq33 (Or.inl ⟨?hw33, ?hy33⟩) hS ?rest33
  case hi33 => simp only [List.getElem?_toArray, List.getElem?_cons_succ, List.getElem?_cons_zero]; rfl
  case hq33 => exact fun _ _ _ h => h
  case hw33 => rfl
  case hy33 => intro w hSw; (try dsimp only at hSw); go_simp; (try with_reducible rfl)
  try simp only [Act.put, List.setIfInBounds_toArray, List.set_cons_zero, List.set_cons_succ]
  refine wpAnyL_take (i := 3) (oi := ?oi34) (v := ?v34) ?hi34 (by kernel_rfl) (by kernel_rfl) (by kernel_rfl) (by kernel_rfl) (by kernel_rfl) ?hq34 (Or.inl ⟨?hw34, ?hy34⟩) hS ?rest34
  case hi34 => simp only [List.getElem?_toArray, List.getElem?_cons_succ, List.getElem?_cons_zero]; rfl
  case hq34 => exact fun _ _ _ h => h
  case hw34 => rfl
  case hy34 => intro w hSw; (try dsimp only at hSw); go_simp; (try with_reducible rfl)
  try simp only [Act.put, List.setIfInBounds_toArray, List.set_cons_zero, List.set_cons_succ]
  refine wpAnyL_take (i := 4) (oi := ?oi35) (v := ?v35) ?hi35 (by kernel_rfl) (by kernel_rfl) (by kernel_rfl) (by kernel_rfl) (by kernel_rfl) ?hq35 (Or.inl ⟨?hw35, ?hy35⟩) hS ?rest35
  case hi35 => simp only [List.getElem?_toArray, List.getElem?_cons_succ, List.getElem?_cons_zero]; rfl
  case hq35 => exact fun _ _ _ h => h
  case hw35 => rfl
  case hy35 => intro w hSw; (try dsimp only at hSw); go_simp; (try with_reducible rfl)
  try simp only [Act.put, List.setIfInBounds_toArray, List.set_cons_zero, List.set_cons_succ]
  refine wpAnyL_ready (rs := [5]) (by kernel_rfl) (by simp) ?_
  refine AllReadyL.cons (o := ?o36) ?ho36 (fun K hK => ?_) AllReadyL.nil
  case ho36 => simp only [List.getElem?_toArray, List.getElem?_cons_succ, List.getElem?_cons_zero]; rfl
  go_simp
  (with_reducible refine HC.out.mono ?_)
  rintro e w4 ⟨⟨v4, rfl, da4, la4, dc4, lc4, rfl, k1, k2, k3, k4⟩, hb4⟩
  have HD4 := Lib.hid (HDD.out.grow hb4)
  have HK4 := Lib.hid (And.intro k1 (And.intro k2 (And.intro k3 k4)))
  have hb4' : w4.heap[b]? = w3.heap[b]? := hb4.block b HBF.out.2
  have ho4 : w4.heap[w.heap.size]? = w3.heap[w.heap.size]? := hb4.block _ HDD.out.opb.2
  clear k1 k2 k3 k4 HC
  have HS4 : Hid ((fun w' => w'.cell? ⟨b, off, none⟩ = some (.slice a0 q0.length c0) ∧ w'.cell? ⟨w.heap.size, 0, none⟩ = some (.int .i64 12) ∧ w'.cell? ⟨w.heap.size, 1, none⟩ = some (.string (strOf pa)) ∧ w'.cell? ⟨w.heap.size, 2, none⟩ = some (.string (strOf to_)) ∧ w'.cell? ⟨w.heap.size, 3, none⟩ = some (.int .i64 fd) ∧ w'.cell? ⟨w.heap.size, 4, none⟩ = some (.int .i64 at_) ∧ w'.cell? ⟨w.heap.size, 5, none⟩ = some (.int .i64 nn) ∧ w'.cell? ⟨w.heap.size, 6, none⟩ = some (.int .u64 til) ∧ w'.cell? ⟨w.heap.size, 7, none⟩ = some (.int .i64 sn) ∧ w'.cell? ⟨w.heap.size, 8, none⟩ = some (.slice da dt.length dc)) w4) := ⟨(World.cell?_of_block hb4').trans hc0, (World.cell?_of_block ho4).trans g0, (World.cell?_of_block ho4).trans g1, (World.cell?_of_block ho4).trans g2, (World.cell?_of_block ho4).trans g3, (World.cell?_of_block ho4).trans g4, (World.cell?_of_block ho4).trans g5, (World.cell?_of_block ho4).trans g6, (World.cell?_of_block ho4).trans g7, (World.cell?_of_block ho4).trans g8⟩
  clear hb4 ho4
  go_wp2_with fail
  refine hK.out _ _ (fun _ => HS4.out) (fun hS => ?_)
  replace hS := hS (by decide)
  clear hK K
  try simp only [Act.put, List.setIfInBounds_toArray, List.set_cons_zero, List.set_cons_succ]
  refine wpAnyL_ready (rs := [6]) (by kernel_rfl) (by simp) ?_
  refine AllReadyL.cons (o := ?o37) ?ho37 (fun K hK => ?_) AllReadyL.nil
  case ho37 => simp only [List.getElem?_toArray, List.getElem?_cons_succ, List.getElem?_cons_zero]; rfl
  refine step_store_rep rfl 33 _ _ rfl (w.heap.size + 1) (reC (rr) da4 la4 dc4 lc4) rfl rfl _ HD4.out.re repSize rfl (reC_one _ _ _ _ _) ?_
  intro w5 hs5
  have HS5 := Lib.hid hs5
  clear hs5
  refine hK.out _ _ (fun h => absurd rfl h) (fun hS => ?_)
  clear hS hK K
  try simp only [Act.put, List.setIfInBounds_toArray, List.set_cons_zero, List.set_cons_succ]
  refine wpAnyL_done (by kernel_rfl) ?_ _
  refine NoPanic.normal ?_
  go_wp2_with fail
  exact ret_rep rfl rfl rfl HS5.out.1 (by rw [HSD.out]; exact HD4.out.fin HS5.out HK4.out.1 HK4.out.2.1 HK4.out.2.2.1 HK4.out.2.2.2)
end
end Go.Proofs.YtpgklnhkfgbpgaaGreatDoor
