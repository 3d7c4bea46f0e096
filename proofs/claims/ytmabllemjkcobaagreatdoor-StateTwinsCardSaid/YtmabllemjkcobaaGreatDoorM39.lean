/- package state: Do, kinds 9 10 11 12. -/
import Derived.Test.YtmabllemjkcobaaGreatDoorM37
namespace Go.Proofs.YtmabllemjkcobaaGreatDoor
open Go.ChangeShapes Go.WideShapes Go.ChangeAt Go.RowKit
set_option linter.unusedVariables false
set_option linter.unusedSimpArgs false

section
variable {W w : World} {o : Mark} {i j k l n p : Nat} {M : StM}
set_option maxRecDepth 100000 in
set_option maxHeartbeats 8000000 in
theorem sdo_k9 {S : Nat → Prop} (hS : StateO o i j k w p M) (hM : Marks W o w) (hk : Mk5 i j k l n) (cc : Int) (hok : StOk cc M) (hcc : cc ≤ 1000000000) (pa to_ : List UInt8) (fd at_ nn til sn : Int) (dt : List UInt8) (hx : OpOk ⟨9, pa, to_, fd, at_, nn, til, sn, dt⟩) (da : Option Addr) (dc : Nat) (hda : RowAt S w da dt.length (dt.map bv)) (m : Int) (hm : w.cell? ⟨0, 0, none⟩ = some (.int .i64 m)) (hp : (pathsO ⟨9, pa, to_, fd, at_, nn, til, sn, dt⟩).2 = 0) :
    Calls Tryz.prog 12 #[ptr p, .agg (opC ⟨9, pa, to_, fd, at_, nn, til, sn, dt⟩ da dc)] w (DoRet o i j k l n w p (sdoM M ⟨9, pa, to_, fd, at_, nn, til, sn, dt⟩)) := by
  obtain ⟨hps0, hf0⟩ := splits_one (a := pa) hp
  have hps : pathsO ⟨9, pa, to_, fd, at_, nn, til, sn, dt⟩ = ([(pathSplit pa).1], 0) := hps0
  have hsd : sdoM M ⟨9, pa, to_, fd, at_, nn, til, sn, dt⟩ = sdoP M ⟨9, pa, to_, fd, at_, nn, til, sn, dt⟩ ((pathSplit pa).1) ([]) := by unfold sdoM; rw [hps]; rfl
  have h80 := split_few hf0
  obtain ⟨q0, hq0⟩ : ∃ q0, q0 = (pathSplit pa).1 := ⟨_, rfl⟩
  rw [← hq0] at hps hsd h80
  obtain ⟨o1, hd2⟩ := DoAt.start hk hS hM ⟨9, pa, to_, fd, at_, nn, til, sn, dt⟩ da dc
  have hb2 : Below w.heap.size w ((w.alloc (.cells (opC ⟨9, pa, to_, fd, at_, nn, til, sn, dt⟩ da dc) 28)).alloc (.cells (reC (noM 0) none none 0 0) 36)) := (wall w _).trans ((wall _ _).mono (by simp))
  obtain ⟨w2, hw2⟩ : ∃ w2, w2 = (w.alloc (.cells (opC ⟨9, pa, to_, fd, at_, nn, til, sn, dt⟩ da dc) 28)).alloc (.cells (reC (noM 0) none none 0 0) 36) := ⟨_, rfl⟩
  rw [← hw2] at hd2 hb2
  have hm2 : w2.cell? ⟨0, 0, none⟩ = some (.int .i64 m) := (hb2.cell (p := ⟨0, 0, none⟩) (World.block_lt_of_cell? w _ hm)).trans hm
  have hpc := paths_any p w2 ⟨9, pa, to_, fd, at_, nn, til, sn, dt⟩ da dc hx m hm2
  rw [hps] at hpc
  have HPC : Hid (Calls Tryz.prog 36 #[ptr p, .agg (opC ⟨9, pa, to_, fd, at_, nn, til, sn, dt⟩ da dc)] ((w.alloc (.cells (opC ⟨9, pa, to_, fd, at_, nn, til, sn, dt⟩ da dc) 28)).alloc (.cells (reC (noM 0) none none 0 0) 36)) (PathsRet w2 ([q0], 0))) := by rw [← hw2]; exact Lib.hid hpc
  unfold opC reC noM at HPC
  dsimp only [List.length_nil] at HPC
  have HSD := Lib.hid hsd
  have HOK := Lib.hid hok
  have HX := Lib.hid hx
  have HDA := Lib.hid (hda.below hb2 (Nat.le_refl _))
  have HD2 := Lib.hid hd2
  have HK := Lib.hid hk
  clear hS hM hk hok hx hda hm hp hps hsd hd2 hb2 hm2 hpc hw2 hps0 hf0 hq0
  unfold opC
  go_enter Tryz.func12, Tryz.ntmps12
  go_wp2_with fail
  (with_reducible refine HPC.out.mono ?_)
  clear HPC
  intro e w3 hpr
  obtain ⟨b, off, c3, a0, c0, rfl, hb0, hbw, hn0, hb3⟩ := hpr.one
  clear hpr
  have HD := Lib.hid (HD2.out.grow hb3)
  have HB3 := Lib.hid hb3
  have HBF : Hid (o1 b = 0 ∧ b < w3.heap.size) := ⟨Decidable.byContradiction fun h0 => by have := (HD2.out.marks.new b h0).2; omega, hbw⟩
  have hc0 := hn0.cell
  have HN0 := Lib.hid hn0
  clear hn0
  have HDA3 := Lib.hid (HDA.out.below hb3 (Nat.le_refl _))
  have g0 : w3.cell? ⟨w.heap.size, 0, none⟩ = some (.int .i64 9) := by simp [World.cell?, HD.out.op, opC]
  clear hb3 HD2 HDA
  have HDD := Lib.hid (HD.out.grow (Below.refl _ _).drew)
  have hMd := HDD.out.marks
  have HST0 := Lib.hid (HN0.out.strs.below (Below.refl _ _).drew (Nat.le_refl _))
  obtain ⟨t, z0, hT3, htr⟩ := HDD.out.callT
  have z0' : w3.cell? ⟨p, 0, none⟩ = some (ptr t) := z0
  have HTR := Lib.hid htr
  have hsd : sdoM M ⟨9, pa, to_, fd, at_, nn, til, sn, dt⟩ = (noM (rmdirM M.t q0).1, M.tr (rmdirM M.t q0).2) := HSD.out
  replace HSD := Lib.hid hsd
  clear hsd
  have HC := Lib.hid (om_rmdir hT3 hMd HK.out.mm.ne.2.1 HOK.out.t.1 a0 q0.length c0 q0 HST0.out HN0.out.cap (by omega))
  obtain ⟨rr, hrr⟩ : ∃ rr, rr = rmdirM M.t q0 := ⟨_, rfl⟩
  rw [← hrr] at HC HSD
  clear hrr htr hT3 hMd z0
  go_wp2_with fail
  refine wp_region_noPanic ?_
  refine wp_region_L (last := 9) (S := (fun w' => w'.cell? ⟨p, 0, none⟩ = some (ptr t) ∧ w'.cell? ⟨b, off, none⟩ = some (.slice a0 q0.length c0))) (by kernel_rfl) ?_ (fun hS => ?_)
  · exact ⟨z0', hc0⟩
  refine tkL 0 (hS := hS) (h := ?_)
  refine tkL 1 (hS := hS) (h := ?_)
  refine tkL 2 (hS := hS) (h := ?_)
  refine tkL 3 (hS := hS) (h := ?_)
  refine tkL 4 (hS := hS) (h := ?_)
  refine tkL 5 (hS := hS) (h := ?_)
  refine tkL 6 (hS := hS) (h := ?_)
  refine rdL 7 (h := fun K hK => ?_)
  go_simp
  (with_reducible refine HC.out.mono ?_)
  rintro e w4 ⟨rfl, o4, hs4, hT4⟩
  obtain ⟨hd4, hp4⟩ := HTR.out _ _ _ hs4 hT4
  have HD4 := Lib.hid hd4
  have hb4 : w4.heap[b]? = w3.heap[b]? := HDD.out.stays (hs4.mono fun m hm => .inr (.inl hm)) HBF.out
  have hp4' : w4.heap[p]? = w3.heap[p]? := hp4
  clear hd4 hs4 hT4 hp4 HC
  have HS4 : Hid ((fun w' => w'.cell? ⟨p, 0, none⟩ = some (ptr t) ∧ w'.cell? ⟨b, off, none⟩ = some (.slice a0 q0.length c0)) w4) := ⟨(World.cell?_of_block hp4').trans z0', (World.cell?_of_block hb4).trans hc0⟩
  clear hb4 hp4'
  go_wp2_with fail
  refine hK.out _ _ (fun _ => HS4.out) (fun hS => ?_)
  replace hS := hS (by decide)
  clear hK K
  try simp only [Act.put, List.setIfInBounds_toArray, List.set_cons_zero, List.set_cons_succ]
  refine rdL 8 (h := fun K hK => ?_)
  go_simp
  (with_reducible refine (no_any _ _).mono ?_)
  rintro e w9 ⟨rfl, hb9⟩
  unfold noV
  have HD9 := Lib.hid (HD4.out.grow hb9)
  have HS9 : Hid ((fun w' => w'.cell? ⟨p, 0, none⟩ = some (ptr t) ∧ w'.cell? ⟨b, off, none⟩ = some (.slice a0 q0.length c0)) w9) := ⟨(hb9.cell (World.block_lt_of_cell? w4 _ HS4.out.1)).trans HS4.out.1, (hb9.cell (World.block_lt_of_cell? w4 _ HS4.out.2)).trans HS4.out.2⟩
  clear hb9
  go_wp2_with fail
  refine hK.out _ _ (fun _ => HS9.out) (fun hS => ?_)
  replace hS := hS (by decide)
  clear hK K
  try simp only [Act.put, List.setIfInBounds_toArray, List.set_cons_zero, List.set_cons_succ]
  refine wpAnyL_ready (rs := [9]) (by kernel_rfl) (by simp) ?_
  refine AllReadyL.cons (o := ?o1) ?ho1 (fun K hK => ?_) AllReadyL.nil
  case ho1 => simp only [List.getElem?_toArray, List.getElem?_cons_succ, List.getElem?_cons_zero]; rfl
  refine step_store_rep rfl 36 _ _ rfl (w.heap.size + 1) (reC (noM (rr.1)) none none 0 0) rfl rfl _ HD9.out.re repSize rfl (reC_one _ _ _ _ _) ?_
  intro w5 hs5
  have HS5 := Lib.hid hs5
  clear hs5
  refine hK.out _ _ (fun h => absurd rfl h) (fun hS => ?_)
  clear hS hK K
  try simp only [Act.put, List.setIfInBounds_toArray, List.set_cons_zero, List.set_cons_succ]
  refine wpAnyL_done (by kernel_rfl) ?_ _
  refine NoPanic.normal ?_
  go_wp2_with fail
  exact ret_rep rfl rfl rfl HS5.out.1 (by rw [HSD.out]; exact HD9.out.fin0 HS5.out rfl rfl)
set_option maxRecDepth 100000 in
set_option maxHeartbeats 8000000 in
theorem sdo_k10 {S : Nat → Prop} (hS : StateO o i j k w p M) (hM : Marks W o w) (hk : Mk5 i j k l n) (cc : Int) (hok : StOk cc M) (hcc : cc ≤ 1000000000) (pa to_ : List UInt8) (fd at_ nn til sn : Int) (dt : List UInt8) (hx : OpOk ⟨10, pa, to_, fd, at_, nn, til, sn, dt⟩) (da : Option Addr) (dc : Nat) (hda : RowAt S w da dt.length (dt.map bv)) (m : Int) (hm : w.cell? ⟨0, 0, none⟩ = some (.int .i64 m)) (hp : (pathsO ⟨10, pa, to_, fd, at_, nn, til, sn, dt⟩).2 = 0) :
    Calls Tryz.prog 12 #[ptr p, .agg (opC ⟨10, pa, to_, fd, at_, nn, til, sn, dt⟩ da dc)] w (DoRet o i j k l n w p (sdoM M ⟨10, pa, to_, fd, at_, nn, til, sn, dt⟩)) := by
  obtain ⟨hps0, hf0, hf1⟩ := splits_two (a := pa) (b := to_) hp
  have hps : pathsO ⟨10, pa, to_, fd, at_, nn, til, sn, dt⟩ = ([(pathSplit pa).1, (pathSplit to_).1], 0) := hps0
  have hsd : sdoM M ⟨10, pa, to_, fd, at_, nn, til, sn, dt⟩ = sdoP M ⟨10, pa, to_, fd, at_, nn, til, sn, dt⟩ ((pathSplit pa).1) ((pathSplit to_).1) := by unfold sdoM; rw [hps]; rfl
  have h80 := split_few hf0
  have h81 := split_few hf1
  obtain ⟨q0, hq0⟩ : ∃ q0, q0 = (pathSplit pa).1 := ⟨_, rfl⟩
  rw [← hq0] at hps hsd h80
  obtain ⟨q1, hq1⟩ : ∃ q1, q1 = (pathSplit to_).1 := ⟨_, rfl⟩
  rw [← hq1] at hps hsd h81
  obtain ⟨o1, hd2⟩ := DoAt.start hk hS hM ⟨10, pa, to_, fd, at_, nn, til, sn, dt⟩ da dc
  have hb2 : Below w.heap.size w ((w.alloc (.cells (opC ⟨10, pa, to_, fd, at_, nn, til, sn, dt⟩ da dc) 28)).alloc (.cells (reC (noM 0) none none 0 0) 36)) := (wall w _).trans ((wall _ _).mono (by simp))
  obtain ⟨w2, hw2⟩ : ∃ w2, w2 = (w.alloc (.cells (opC ⟨10, pa, to_, fd, at_, nn, til, sn, dt⟩ da dc) 28)).alloc (.cells (reC (noM 0) none none 0 0) 36) := ⟨_, rfl⟩
  rw [← hw2] at hd2 hb2
  have hm2 : w2.cell? ⟨0, 0, none⟩ = some (.int .i64 m) := (hb2.cell (p := ⟨0, 0, none⟩) (World.block_lt_of_cell? w _ hm)).trans hm
  have hpc := paths_any p w2 ⟨10, pa, to_, fd, at_, nn, til, sn, dt⟩ da dc hx m hm2
  rw [hps] at hpc
  have HPC : Hid (Calls Tryz.prog 36 #[ptr p, .agg (opC ⟨10, pa, to_, fd, at_, nn, til, sn, dt⟩ da dc)] ((w.alloc (.cells (opC ⟨10, pa, to_, fd, at_, nn, til, sn, dt⟩ da dc) 28)).alloc (.cells (reC (noM 0) none none 0 0) 36)) (PathsRet w2 ([q0, q1], 0))) := by rw [← hw2]; exact Lib.hid hpc
  unfold opC reC noM at HPC
  dsimp only [List.length_nil] at HPC
  have HSD := Lib.hid hsd
  have HOK := Lib.hid hok
  have HX := Lib.hid hx
  have HDA := Lib.hid (hda.below hb2 (Nat.le_refl _))
  have HD2 := Lib.hid hd2
  have HK := Lib.hid hk
  clear hS hM hk hok hx hda hm hp hps hsd hd2 hb2 hm2 hpc hw2 hps0 hf0 hf1 hq0 hq1
  unfold opC
  go_enter Tryz.func12, Tryz.ntmps12
  go_wp2_with fail
  (with_reducible refine HPC.out.mono ?_)
  clear HPC
  intro e w3 hpr
  obtain ⟨b, off, c3, a0, c0, a1, c1, rfl, hb0, hbw, hn0, hn1, hb3⟩ := hpr.two
  clear hpr
  have HD := Lib.hid (HD2.out.grow hb3)
  have HB3 := Lib.hid hb3
  have HBF : Hid (o1 b = 0 ∧ b < w3.heap.size) := ⟨Decidable.byContradiction fun h0 => by have := (HD2.out.marks.new b h0).2; omega, hbw⟩
  have hc0 := hn0.cell
  have HN0 := Lib.hid hn0
  clear hn0
  have hc1 := hn1.cell
  have HN1 := Lib.hid hn1
  clear hn1
  have HDA3 := Lib.hid (HDA.out.below hb3 (Nat.le_refl _))
  have g0 : w3.cell? ⟨w.heap.size, 0, none⟩ = some (.int .i64 10) := by simp [World.cell?, HD.out.op, opC]
  clear hb3 HD2 HDA
  have HDD := Lib.hid (HD.out.grow (Below.refl _ _).drew)
  have hMd := HDD.out.marks
  have HST0 := Lib.hid (HN0.out.strs.below (Below.refl _ _).drew (Nat.le_refl _))
  have HST1 := Lib.hid (HN1.out.strs.below (Below.refl _ _).drew (Nat.le_refl _))
  obtain ⟨t, z0, hT3, htr⟩ := HDD.out.callT
  have z0' : w3.cell? ⟨p, 0, none⟩ = some (ptr t) := z0
  have HTR := Lib.hid htr
  have hsd : sdoM M ⟨10, pa, to_, fd, at_, nn, til, sn, dt⟩ = (noM (renameM M.t q0 q1).1, M.tr (renameM M.t q0 q1).2) := HSD.out
  replace HSD := Lib.hid hsd
  clear hsd
  have HC := Lib.hid (om_rename hT3 hMd HK.out.mm.ne.2.1 HOK.out.t a0 q0.length c0 q0 a1 q1.length c1 q1 HST0.out HST1.out HN0.out.cap (by omega) HN1.out.cap (by omega))
  obtain ⟨rr, hrr⟩ : ∃ rr, rr = renameM M.t q0 q1 := ⟨_, rfl⟩
  rw [← hrr] at HC HSD
  clear hrr htr hT3 hMd z0
  go_wp2_with fail
  refine wp_region_noPanic ?_
  refine wp_region_L (last := 12) (S := (fun w' => w'.cell? ⟨p, 0, none⟩ = some (ptr t) ∧ w'.cell? ⟨b, off, none⟩ = some (.slice a0 q0.length c0) ∧ w'.cell? ⟨b, off + 1, none⟩ = some (.slice a1 q1.length c1))) (by kernel_rfl) ?_ (fun hS => ?_)
  · exact ⟨z0', hc0, hc1⟩
  refine tkL 0 (hS := hS) (h := ?_)
  refine tkL 1 (hS := hS) (h := ?_)
  refine tkL 2 (hS := hS) (h := ?_)
  refine tkL 3 (hS := hS) (h := ?_)
  refine tkL 4 (hS := hS) (h := ?_)
  refine tkL 5 (hS := hS) (h := ?_)
  refine tkL 6 (hS := hS) (h := ?_)
  refine tkL 7 (hS := hS) (h := ?_)
  refine tkL 8 (hS := hS) (h := ?_)
  refine tkL 9 (hS := hS) (h := ?_)
  refine rdL 10 (h := fun K hK => ?_)
  go_simp
  (with_reducible refine HC.out.mono ?_)
  rintro e w4 ⟨rfl, o4, hs4, hT4⟩
  obtain ⟨hd4, hp4⟩ := HTR.out _ _ _ hs4 hT4
  have HD4 := Lib.hid hd4
  have hb4 : w4.heap[b]? = w3.heap[b]? := HDD.out.stays (hs4.mono fun m hm => .inr (.inl hm)) HBF.out
  have hp4' : w4.heap[p]? = w3.heap[p]? := hp4
  clear hd4 hs4 hT4 hp4 HC
  have HS4 : Hid ((fun w' => w'.cell? ⟨p, 0, none⟩ = some (ptr t) ∧ w'.cell? ⟨b, off, none⟩ = some (.slice a0 q0.length c0) ∧ w'.cell? ⟨b, off + 1, none⟩ = some (.slice a1 q1.length c1)) w4) := ⟨(World.cell?_of_block hp4').trans z0', (World.cell?_of_block hb4).trans hc0, (World.cell?_of_block hb4).trans hc1⟩
  clear hb4 hp4'
  go_wp2_with fail
  refine hK.out _ _ (fun _ => HS4.out) (fun hS => ?_)
  replace hS := hS (by decide)
  clear hK K
  try simp only [Act.put, List.setIfInBounds_toArray, List.set_cons_zero, List.set_cons_succ]
  refine rdL 11 (h := fun K hK => ?_)
  go_simp
  (with_reducible refine (no_any _ _).mono ?_)
  rintro e w9 ⟨rfl, hb9⟩
  unfold noV
  have HD9 := Lib.hid (HD4.out.grow hb9)
  have HS9 : Hid ((fun w' => w'.cell? ⟨p, 0, none⟩ = some (ptr t) ∧ w'.cell? ⟨b, off, none⟩ = some (.slice a0 q0.length c0) ∧ w'.cell? ⟨b, off + 1, none⟩ = some (.slice a1 q1.length c1)) w9) := ⟨(hb9.cell (World.block_lt_of_cell? w4 _ HS4.out.1)).trans HS4.out.1, (hb9.cell (World.block_lt_of_cell? w4 _ HS4.out.2.1)).trans HS4.out.2.1, (hb9.cell (World.block_lt_of_cell? w4 _ HS4.out.2.2)).trans HS4.out.2.2⟩
  clear hb9
  go_wp2_with fail
  refine hK.out _ _ (fun _ => HS9.out) (fun hS => ?_)
  replace hS := hS (by decide)
  clear hK K
  try simp only [Act.put, List.setIfInBounds_toArray, List.set_cons_zero, List.set_cons_succ]
  refine wpAnyL_ready (rs := [12]) (by kernel_rfl) (by simp) ?_
  refine AllReadyL.cons (o := ?o2) ?ho2 (fun K hK => ?_) AllReadyL.nil
  case ho2 => simp only [List.getElem?_toArray, List.getElem?_cons_succ, List.getElem?_cons_zero]; rfl
  refine step_store_rep rfl 36 _ _ rfl (w.heap.size + 1) (reC (noM (rr.1)) none none 0 0) rfl rfl _ HD9.out.re repSize rfl (reC_one _ _ _ _ _) ?_
  intro w5 hs5
  have HS5 := Lib.hid hs5
  clear hs5
  refine hK.out _ _ (fun h => absurd rfl h) (fun hS => ?_)
  clear hS hK K
  try simp only [Act.put, List.setIfInBounds_toArray, List.set_cons_zero, List.set_cons_succ]
  refine wpAnyL_done (by kernel_rfl) ?_ _
  refine NoPanic.normal ?_
  go_wp2_with fail
  exact ret_rep rfl rfl rfl HS5.out.1 (by rw [HSD.out]; exact HD9.out.fin0 HS5.out rfl rfl)
set_option maxRecDepth 100000 in
set_option maxHeartbeats 8000000 in
theorem sdo_k11 {S : Nat → Prop} (hS : StateO o i j k w p M) (hM : Marks W o w) (hk : Mk5 i j k l n) (cc : Int) (hok : StOk cc M) (hcc : cc ≤ 1000000000) (pa to_ : List UInt8) (fd at_ nn til sn : Int) (dt : List UInt8) (hx : OpOk ⟨11, pa, to_, fd, at_, nn, til, sn, dt⟩) (da : Option Addr) (dc : Nat) (hda : RowAt S w da dt.length (dt.map bv)) (m : Int) (hm : w.cell? ⟨0, 0, none⟩ = some (.int .i64 m)) (hp : (pathsO ⟨11, pa, to_, fd, at_, nn, til, sn, dt⟩).2 = 0) :
    Calls Tryz.prog 12 #[ptr p, .agg (opC ⟨11, pa, to_, fd, at_, nn, til, sn, dt⟩ da dc)] w (DoRet o i j k l n w p (sdoM M ⟨11, pa, to_, fd, at_, nn, til, sn, dt⟩)) := by
  obtain ⟨hps0, hf0⟩ := splits_one (a := pa) hp
  have hps : pathsO ⟨11, pa, to_, fd, at_, nn, til, sn, dt⟩ = ([(pathSplit pa).1], 0) := hps0
  have hsd : sdoM M ⟨11, pa, to_, fd, at_, nn, til, sn, dt⟩ = sdoP M ⟨11, pa, to_, fd, at_, nn, til, sn, dt⟩ ((pathSplit pa).1) ([]) := by unfold sdoM; rw [hps]; rfl
  have h80 := split_few hf0
  obtain ⟨q0, hq0⟩ : ∃ q0, q0 = (pathSplit pa).1 := ⟨_, rfl⟩
  rw [← hq0] at hps hsd h80
  obtain ⟨o1, hd2⟩ := DoAt.start hk hS hM ⟨11, pa, to_, fd, at_, nn, til, sn, dt⟩ da dc
  have hb2 : Below w.heap.size w ((w.alloc (.cells (opC ⟨11, pa, to_, fd, at_, nn, til, sn, dt⟩ da dc) 28)).alloc (.cells (reC (noM 0) none none 0 0) 36)) := (wall w _).trans ((wall _ _).mono (by simp))
  obtain ⟨w2, hw2⟩ : ∃ w2, w2 = (w.alloc (.cells (opC ⟨11, pa, to_, fd, at_, nn, til, sn, dt⟩ da dc) 28)).alloc (.cells (reC (noM 0) none none 0 0) 36) := ⟨_, rfl⟩
  rw [← hw2] at hd2 hb2
  have hm2 : w2.cell? ⟨0, 0, none⟩ = some (.int .i64 m) := (hb2.cell (p := ⟨0, 0, none⟩) (World.block_lt_of_cell? w _ hm)).trans hm
  have hpc := paths_any p w2 ⟨11, pa, to_, fd, at_, nn, til, sn, dt⟩ da dc hx m hm2
  rw [hps] at hpc
  have HPC : Hid (Calls Tryz.prog 36 #[ptr p, .agg (opC ⟨11, pa, to_, fd, at_, nn, til, sn, dt⟩ da dc)] ((w.alloc (.cells (opC ⟨11, pa, to_, fd, at_, nn, til, sn, dt⟩ da dc) 28)).alloc (.cells (reC (noM 0) none none 0 0) 36)) (PathsRet w2 ([q0], 0))) := by rw [← hw2]; exact Lib.hid hpc
  unfold opC reC noM at HPC
  dsimp only [List.length_nil] at HPC
  have HSD := Lib.hid hsd
  have HOK := Lib.hid hok
  have HX := Lib.hid hx
  have HDA := Lib.hid (hda.below hb2 (Nat.le_refl _))
  have HD2 := Lib.hid hd2
  have HK := Lib.hid hk
  clear hS hM hk hok hx hda hm hp hps hsd hd2 hb2 hm2 hpc hw2 hps0 hf0 hq0
  unfold opC
  go_enter Tryz.func12, Tryz.ntmps12
  go_wp2_with fail
  (with_reducible refine HPC.out.mono ?_)
  clear HPC
  intro e w3 hpr
  obtain ⟨b, off, c3, a0, c0, rfl, hb0, hbw, hn0, hb3⟩ := hpr.one
  clear hpr
  have HD := Lib.hid (HD2.out.grow hb3)
  have HB3 := Lib.hid hb3
  have HBF : Hid (o1 b = 0 ∧ b < w3.heap.size) := ⟨Decidable.byContradiction fun h0 => by have := (HD2.out.marks.new b h0).2; omega, hbw⟩
  have hc0 := hn0.cell
  have HN0 := Lib.hid hn0
  clear hn0
  have HDA3 := Lib.hid (HDA.out.below hb3 (Nat.le_refl _))
  have g0 : w3.cell? ⟨w.heap.size, 0, none⟩ = some (.int .i64 11) := by simp [World.cell?, HD.out.op, opC]
  clear hb3 HD2 HDA
  have HDD := Lib.hid (HD.out.grow (Below.refl _ _).drew)
  have hMd := HDD.out.marks
  have HST0 := Lib.hid (HN0.out.strs.below (Below.refl _ _).drew (Nat.le_refl _))
  have hsd : sdoM M ⟨11, pa, to_, fd, at_, nn, til, sn, dt⟩ = (slookM M ⟨11, pa, to_, fd, at_, nn, til, sn, dt⟩ q0, M) := HSD.out
  replace HSD := Lib.hid hsd
  clear hsd
  have HC := Lib.hid (slook_any HDD.out.st hMd HOK.out.t.1 (by have := HOK.out.s.few; omega) ⟨11, pa, to_, fd, at_, nn, til, sn, dt⟩ da dc a0 q0.length c0 q0 HST0.out (fun T hT => look_wf (HOK.out.treeAt hT).1 q0))
  obtain ⟨rr, hrr⟩ : ∃ rr, rr = slookM M ⟨11, pa, to_, fd, at_, nn, til, sn, dt⟩ q0 := ⟨_, rfl⟩
  unfold opC at HC
  have g1 : w3.cell? ⟨w.heap.size, 1, none⟩ = some (.string (strOf pa)) := by simp [World.cell?, HD.out.op, opC]
  have g2 : w3.cell? ⟨w.heap.size, 2, none⟩ = some (.string (strOf to_)) := by simp [World.cell?, HD.out.op, opC]
  have g3 : w3.cell? ⟨w.heap.size, 3, none⟩ = some (.int .i64 fd) := by simp [World.cell?, HD.out.op, opC]
  have g4 : w3.cell? ⟨w.heap.size, 4, none⟩ = some (.int .i64 at_) := by simp [World.cell?, HD.out.op, opC]
  have g5 : w3.cell? ⟨w.heap.size, 5, none⟩ = some (.int .i64 nn) := by simp [World.cell?, HD.out.op, opC]
  have g6 : w3.cell? ⟨w.heap.size, 6, none⟩ = some (.int .u64 til) := by simp [World.cell?, HD.out.op, opC]
  have g7 : w3.cell? ⟨w.heap.size, 7, none⟩ = some (.int .i64 sn) := by simp [World.cell?, HD.out.op, opC]
  have g8 : w3.cell? ⟨w.heap.size, 8, none⟩ = some (.slice da dt.length dc) := by simp [World.cell?, HD.out.op, opC]
  rw [← hrr] at HC HSD
  clear hrr hMd
  go_wp2_with fail
  refine wp_region_noPanic ?_
  refine wp_region_L (last := 6) (S := (fun w' => w'.cell? ⟨b, off, none⟩ = some (.slice a0 q0.length c0) ∧ w'.cell? ⟨w.heap.size, 0, none⟩ = some (.int .i64 11) ∧ w'.cell? ⟨w.heap.size, 1, none⟩ = some (.string (strOf pa)) ∧ w'.cell? ⟨w.heap.size, 2, none⟩ = some (.string (strOf to_)) ∧ w'.cell? ⟨w.heap.size, 3, none⟩ = some (.int .i64 fd) ∧ w'.cell? ⟨w.heap.size, 4, none⟩ = some (.int .i64 at_) ∧ w'.cell? ⟨w.heap.size, 5, none⟩ = some (.int .i64 nn) ∧ w'.cell? ⟨w.heap.size, 6, none⟩ = some (.int .u64 til) ∧ w'.cell? ⟨w.heap.size, 7, none⟩ = some (.int .i64 sn) ∧ w'.cell? ⟨w.heap.size, 8, none⟩ = some (.slice da dt.length dc))) (by kernel_rfl) ?_ (fun hS => ?_)
  · exact ⟨hc0, g0, g1, g2, g3, g4, g5, g6, g7, g8⟩
  refine tkL 0 (hS := hS) (h := ?_)
  refine tkL 1 (hS := hS) (h := ?_)
  refine tkL 2 (hS := hS) (h := ?_)
  refine tkL 3 (hS := hS) (h := ?_)
  refine tkL 4 (hS := hS) (h := ?_)
  refine rdL 5 (h := fun K hK => ?_)
  go_simp
  (with_reducible refine HC.out.mono ?_)
  rintro e w4 ⟨⟨v4, rfl, da4, la4, dc4, lc4, rfl, k1, k2, k3, k4⟩, hb4⟩
  have HD4 := Lib.hid (HDD.out.grow hb4)
  have HK4 := Lib.hid (And.intro k1 (And.intro k2 (And.intro k3 k4)))
  have hb4' : w4.heap[b]? = w3.heap[b]? := hb4.block b HBF.out.2
  have ho4 : w4.heap[w.heap.size]? = w3.heap[w.heap.size]? := hb4.block _ HDD.out.opb.2
  clear k1 k2 k3 k4 HC
  have HS4 : Hid ((fun w' => w'.cell? ⟨b, off, none⟩ = some (.slice a0 q0.length c0) ∧ w'.cell? ⟨w.heap.size, 0, none⟩ = some (.int .i64 11) ∧ w'.cell? ⟨w.heap.size, 1, none⟩ = some (.string (strOf pa)) ∧ w'.cell? ⟨w.heap.size, 2, none⟩ = some (.string (strOf to_)) ∧ w'.cell? ⟨w.heap.size, 3, none⟩ = some (.int .i64 fd) ∧ w'.cell? ⟨w.heap.size, 4, none⟩ = some (.int .i64 at_) ∧ w'.cell? ⟨w.heap.size, 5, none⟩ = some (.int .i64 nn) ∧ w'.cell? ⟨w.heap.size, 6, none⟩ = some (.int .u64 til) ∧ w'.cell? ⟨w.heap.size, 7, none⟩ = some (.int .i64 sn) ∧ w'.cell? ⟨w.heap.size, 8, none⟩ = some (.slice da dt.length dc)) w4) := ⟨(World.cell?_of_block hb4').trans hc0, (World.cell?_of_block ho4).trans g0, (World.cell?_of_block ho4).trans g1, (World.cell?_of_block ho4).trans g2, (World.cell?_of_block ho4).trans g3, (World.cell?_of_block ho4).trans g4, (World.cell?_of_block ho4).trans g5, (World.cell?_of_block ho4).trans g6, (World.cell?_of_block ho4).trans g7, (World.cell?_of_block ho4).trans g8⟩
  clear hb4 ho4
  go_wp2_with fail
  refine hK.out _ _ (fun _ => HS4.out) (fun hS => ?_)
  replace hS := hS (by decide)
  clear hK K
  try simp only [Act.put, List.setIfInBounds_toArray, List.set_cons_zero, List.set_cons_succ]
  refine wpAnyL_ready (rs := [6]) (by kernel_rfl) (by simp) ?_
  refine AllReadyL.cons (o := ?o3) ?ho3 (fun K hK => ?_) AllReadyL.nil
  case ho3 => simp only [List.getElem?_toArray, List.getElem?_cons_succ, List.getElem?_cons_zero]; rfl
  refine step_store_rep rfl 36 _ _ rfl (w.heap.size + 1) (reC (rr) da4 la4 dc4 lc4) rfl rfl _ HD4.out.re repSize rfl (reC_one _ _ _ _ _) ?_
  intro w5 hs5
  have HS5 := Lib.hid hs5
  clear hs5
  refine hK.out _ _ (fun h => absurd rfl h) (fun hS => ?_)
  clear hS hK K
  try simp only [Act.put, List.setIfInBounds_toArray, List.set_cons_zero, List.set_cons_succ]
  refine wpAnyL_done (by kernel_rfl) ?_ _
  refine NoPanic.normal ?_
  go_wp2_with fail
  exact ret_rep rfl rfl rfl HS5.out.1 (by rw [HSD.out]; exact HD4.out.fin HS5.out HK4.out.1 HK4.out.2.1 HK4.out.2.2.1 HK4.out.2.2.2)
set_option maxRecDepth 100000 in
set_option maxHeartbeats 8000000 in
theorem sdo_k12 {S : Nat → Prop} (hS : StateO o i j k w p M) (hM : Marks W o w) (hk : Mk5 i j k l n) (cc : Int) (hok : StOk cc M) (hcc : cc ≤ 1000000000) (pa to_ : List UInt8) (fd at_ nn til sn : Int) (dt : List UInt8) (hx : OpOk ⟨12, pa, to_, fd, at_, nn, til, sn, dt⟩) (da : Option Addr) (dc : Nat) (hda : RowAt S w da dt.length (dt.map bv)) (m : Int) (hm : w.cell? ⟨0, 0, none⟩ = some (.int .i64 m)) (hp : (pathsO ⟨12, pa, to_, fd, at_, nn, til, sn, dt⟩).2 = 0) :
    Calls Tryz.prog 12 #[ptr p, .agg (opC ⟨12, pa, to_, fd, at_, nn, til, sn, dt⟩ da dc)] w (DoRet o i j k l n w p (sdoM M ⟨12, pa, to_, fd, at_, nn, til, sn, dt⟩)) := by
  obtain ⟨hps0, hf0⟩ := splits_one (a := pa) hp
  have hps : pathsO ⟨12, pa, to_, fd, at_, nn, til, sn, dt⟩ = ([(pathSplit pa).1], 0) := hps0
  have hsd : sdoM M ⟨12, pa, to_, fd, at_, nn, til, sn, dt⟩ = sdoP M ⟨12, pa, to_, fd, at_, nn, til, sn, dt⟩ ((pathSplit pa).1) ([]) := by unfold sdoM; rw [hps]; rfl
  have h80 := split_few hf0
  obtain ⟨q0, hq0⟩ : ∃ q0, q0 = (pathSplit pa).1 := ⟨_, rfl⟩
  rw [← hq0] at hps hsd h80
  obtain ⟨o1, hd2⟩ := DoAt.start hk hS hM ⟨12, pa, to_, fd, at_, nn, til, sn, dt⟩ da dc
  have hb2 : Below w.heap.size w ((w.alloc (.cells (opC ⟨12, pa, to_, fd, at_, nn, til, sn, dt⟩ da dc) 28)).alloc (.cells (reC (noM 0) none none 0 0) 36)) := (wall w _).trans ((wall _ _).mono (by simp))
  obtain ⟨w2, hw2⟩ : ∃ w2, w2 = (w.alloc (.cells (opC ⟨12, pa, to_, fd, at_, nn, til, sn, dt⟩ da dc) 28)).alloc (.cells (reC (noM 0) none none 0 0) 36) := ⟨_, rfl⟩
  rw [← hw2] at hd2 hb2
  have hm2 : w2.cell? ⟨0, 0, none⟩ = some (.int .i64 m) := (hb2.cell (p := ⟨0, 0, none⟩) (World.block_lt_of_cell? w _ hm)).trans hm
  have hpc := paths_any p w2 ⟨12, pa, to_, fd, at_, nn, til, sn, dt⟩ da dc hx m hm2
  rw [hps] at hpc
  have HPC : Hid (Calls Tryz.prog 36 #[ptr p, .agg (opC ⟨12, pa, to_, fd, at_, nn, til, sn, dt⟩ da dc)] ((w.alloc (.cells (opC ⟨12, pa, to_, fd, at_, nn, til, sn, dt⟩ da dc) 28)).alloc (.cells (reC (noM 0) none none 0 0) 36)) (PathsRet w2 ([q0], 0))) := by rw [← hw2]; exact Lib.hid hpc
  unfold opC reC noM at HPC
  dsimp only [List.length_nil] at HPC
  have HSD := Lib.hid hsd
  have HOK := Lib.hid hok
  have HX := Lib.hid hx
  have HDA := Lib.hid (hda.below hb2 (Nat.le_refl _))
  have HD2 := Lib.hid hd2
  have HK := Lib.hid hk
  clear hS hM hk hok hx hda hm hp hps hsd hd2 hb2 hm2 hpc hw2 hps0 hf0 hq0
  unfold opC
  go_enter Tryz.func12, Tryz.ntmps12
  go_wp2_with fail
  (with_reducible refine HPC.out.mono ?_)
  clear HPC
  intro e w3 hpr
  obtain ⟨b, off, c3, a0, c0, rfl, hb0, hbw, hn0, hb3⟩ := hpr.one
  clear hpr
  have HD := Lib.hid (HD2.out.grow hb3)
  have HB3 := Lib.hid hb3
  have HBF : Hid (o1 b = 0 ∧ b < w3.heap.size) := ⟨Decidable.byContradiction fun h0 => by have := (HD2.out.marks.new b h0).2; omega, hbw⟩
  have hc0 := hn0.cell
  have HN0 := Lib.hid hn0
  clear hn0
  have HDA3 := Lib.hid (HDA.out.below hb3 (Nat.le_refl _))
  have g0 : w3.cell? ⟨w.heap.size, 0, none⟩ = some (.int .i64 12) := by simp [World.cell?, HD.out.op, opC]
  clear hb3 HD2 HDA
  have HDD := Lib.hid (HD.out.grow (Below.refl _ _).drew)
  have hMd := HDD.out.marks
  have HST0 := Lib.hid (HN0.out.strs.below (Below.refl _ _).drew (Nat.le_refl _))
  have hsd : sdoM M ⟨12, pa, to_, fd, at_, nn, til, sn, dt⟩ = (slookM M ⟨12, pa, to_, fd, at_, nn, til, sn, dt⟩ q0, M) := HSD.out
  replace HSD := Lib.hid hsd
  clear hsd
  have HC := Lib.hid (slook_any HDD.out.st hMd HOK.out.t.1 (by have := HOK.out.s.few; omega) ⟨12, pa, to_, fd, at_, nn, til, sn, dt⟩ da dc a0 q0.length c0 q0 HST0.out (fun T hT => look_wf (HOK.out.treeAt hT).1 q0))
  obtain ⟨rr, hrr⟩ : ∃ rr, rr = slookM M ⟨12, pa, to_, fd, at_, nn, til, sn, dt⟩ q0 := ⟨_, rfl⟩
  unfold opC at HC
  have g1 : w3.cell? ⟨w.heap.size, 1, none⟩ = some (.string (strOf pa)) := by simp [World.cell?, HD.out.op, opC]
  have g2 : w3.cell? ⟨w.heap.size, 2, none⟩ = some (.string (strOf to_)) := by simp [World.cell?, HD.out.op, opC]
  have g3 : w3.cell? ⟨w.heap.size, 3, none⟩ = some (.int .i64 fd) := by simp [World.cell?, HD.out.op, opC]
  have g4 : w3.cell? ⟨w.heap.size, 4, none⟩ = some (.int .i64 at_) := by simp [World.cell?, HD.out.op, opC]
  have g5 : w3.cell? ⟨w.heap.size, 5, none⟩ = some (.int .i64 nn) := by simp [World.cell?, HD.out.op, opC]
  have g6 : w3.cell? ⟨w.heap.size, 6, none⟩ = some (.int .u64 til) := by simp [World.cell?, HD.out.op, opC]
  have g7 : w3.cell? ⟨w.heap.size, 7, none⟩ = some (.int .i64 sn) := by simp [World.cell?, HD.out.op, opC]
  have g8 : w3.cell? ⟨w.heap.size, 8, none⟩ = some (.slice da dt.length dc) := by simp [World.cell?, HD.out.op, opC]
  rw [← hrr] at HC HSD
  clear hrr hMd
  go_wp2_with fail
  refine wp_region_noPanic ?_
  refine wp_region_L (last := 6) (S := (fun w' => w'.cell? ⟨b, off, none⟩ = some (.slice a0 q0.length c0) ∧ w'.cell? ⟨w.heap.size, 0, none⟩ = some (.int .i64 12) ∧ w'.cell? ⟨w.heap.size, 1, none⟩ = some (.string (strOf pa)) ∧ w'.cell? ⟨w.heap.size, 2, none⟩ = some (.string (strOf to_)) ∧ w'.cell? ⟨w.heap.size, 3, none⟩ = some (.int .i64 fd) ∧ w'.cell? ⟨w.heap.size, 4, none⟩ = some (.int .i64 at_) ∧ w'.cell? ⟨w.heap.size, 5, none⟩ = some (.int .i64 nn) ∧ w'.cell? ⟨w.heap.size, 6, none⟩ = some (.int .u64 til) ∧ w'.cell? ⟨w.heap.size, 7, none⟩ = some (.int .i64 sn) ∧ w'.cell? ⟨w.heap.size, 8, none⟩ = some (.slice da dt.length dc))) (by kernel_rfl) ?_ (fun hS => ?_)
  · exact ⟨hc0, g0, g1, g2, g3, g4, g5, g6, g7, g8⟩
  refine tkL 0 (hS := hS) (h := ?_)
  refine tkL 1 (hS := hS) (h := ?_)
  refine tkL 2 (hS := hS) (h := ?_)
  refine tkL 3 (hS := hS) (h := ?_)
  refine tkL 4 (hS := hS) (h := ?_)
  refine rdL 5 (h := fun K hK => ?_)
  go_simp
  (with_reducible refine HC.out.mono ?_)
  rintro e w4 ⟨⟨v4, rfl, da4, la4, dc4, lc4, rfl, k1, k2, k3, k4⟩, hb4⟩
  have HD4 := Lib.hid (HDD.out.grow hb4)
  have HK4 := Lib.hid (And.intro k1 (And.intro k2 (And.intro k3 k4)))
  have hb4' : w4.heap[b]? = w3.heap[b]? := hb4.block b HBF.out.2
  have ho4 : w4.heap[w.heap.size]? = w3.heap[w.heap.size]? := hb4.block _ HDD.out.opb.2
  clear k1 k2 k3 k4 HC
  have HS4 : Hid ((fun w' => w'.cell? ⟨b, off, none⟩ = some (.slice a0 q0.length c0) ∧ w'.cell? ⟨w.heap.size, 0, none⟩ = some (.int .i64 12) ∧ w'.cell? ⟨w.heap.size, 1, none⟩ = some (.string (strOf pa)) ∧ w'.cell? ⟨w.heap.size, 2, none⟩ = some (.string (strOf to_)) ∧ w'.cell? ⟨w.heap.size, 3, none⟩ = some (.int .i64 fd) ∧ w'.cell? ⟨w.heap.size, 4, none⟩ = some (.int .i64 at_) ∧ w'.cell? ⟨w.heap.size, 5, none⟩ = some (.int .i64 nn) ∧ w'.cell? ⟨w.heap.size, 6, none⟩ = some (.int .u64 til) ∧ w'.cell? ⟨w.heap.size, 7, none⟩ = some (.int .i64 sn) ∧ w'.cell? ⟨w.heap.size, 8, none⟩ = some (.slice da dt.length dc)) w4) := ⟨(World.cell?_of_block hb4').trans hc0, (World.cell?_of_block ho4).trans g0, (World.cell?_of_block ho4).trans g1, (World.cell?_of_block ho4).trans g2, (World.cell?_of_block ho4).trans g3, (World.cell?_of_block ho4).trans g4, (World.cell?_of_block ho4).trans g5, (World.cell?_of_block ho4).trans g6, (World.cell?_of_block ho4).trans g7, (World.cell?_of_block ho4).trans g8⟩
  clear hb4 ho4
  go_wp2_with fail
  refine hK.out _ _ (fun _ => HS4.out) (fun hS => ?_)
  replace hS := hS (by decide)
  clear hK K
  try simp only [Act.put, List.setIfInBounds_toArray, List.set_cons_zero, List.set_cons_succ]
  refine wpAnyL_ready (rs := [6]) (by kernel_rfl) (by simp) ?_
  refine AllReadyL.cons (o := ?o4) ?ho4 (fun K hK => ?_) AllReadyL.nil
  case ho4 => simp only [List.getElem?_toArray, List.getElem?_cons_succ, List.getElem?_cons_zero]; rfl
  refine step_store_rep rfl 36 _ _ rfl (w.heap.size + 1) (reC (rr) da4 la4 dc4 lc4) rfl rfl _ HD4.out.re repSize rfl (reC_one _ _ _ _ _) ?_
  intro w5 hs5
  have HS5 := Lib.hid hs5
  clear hs5
  refine hK.out _ _ (fun h => absurd rfl h) (fun hS => ?_)
  clear hS hK K
  try simp only [Act.put, List.setIfInBounds_toArray, List.set_cons_zero, List.set_cons_succ]
  refine wpAnyL_done (by kernel_rfl) ?_ _
  refine NoPanic.normal ?_
  go_wp2_with fail
  exact ret_rep rfl rfl rfl HS5.out.1 (by rw [HSD.out]; exact HD4.out.fin HS5.out HK4.out.1 HK4.out.2.1 HK4.out.2.2.1 HK4.out.2.2.2)
end
end Go.Proofs.YtmabllemjkcobaaGreatDoor
