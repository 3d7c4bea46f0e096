/- package state: Do, kinds 13 14 15 16 17. -/
import Derived.Test.YtpgklnhkfgbpgaaGreatDoorM39
namespace Go.Proofs.YtpgklnhkfgbpgaaGreatDoor
open Go.ChangeShapes Go.WideShapes Go.ChangeAt Go.RowKit
set_option linter.unusedVariables false
set_option linter.unusedSimpArgs false

section
variable {W w : World} {o : Mark} {i j k l n p : Nat} {M : StM}
set_option maxRecDepth 100000 in
set_option maxHeartbeats 8000000 in
theorem sdo_k13 {S : Nat → Prop} (hS : StateO o i j k w p M) (hM : Marks W o w) (hk : Mk5 i j k l n) (cc : Int) (hok : StOk cc M) (hcc : cc ≤ 1000000000) (pa to_ : List UInt8) (fd at_ nn til sn : Int) (dt : List UInt8) (hx : OpOk ⟨13, pa, to_, fd, at_, nn, til, sn, dt⟩) (da : Option Addr) (dc : Nat) (hda : RowAt S w da dt.length (dt.map bv)) (m : Int) (hm : w.cell? ⟨0, 0, none⟩ = some (.int .i64 m)) (hp : (pathsO ⟨13, pa, to_, fd, at_, nn, til, sn, dt⟩).2 = 0) :
    Calls Tryz.prog 14 #[ptr p, .agg (opC ⟨13, pa, to_, fd, at_, nn, til, sn, dt⟩ da dc)] w (DoRet o i j k l n w p (sdoM M ⟨13, pa, to_, fd, at_, nn, til, sn, dt⟩)) := by
  obtain ⟨hps0, hf0⟩ := splits_one (a := pa) hp
  have hps : pathsO ⟨13, pa, to_, fd, at_, nn, til, sn, dt⟩ = ([(pathSplit pa).1], 0) := hps0
  have hsd : sdoM M ⟨13, pa, to_, fd, at_, nn, til, sn, dt⟩ = sdoP M ⟨13, pa, to_, fd, at_, nn, til, sn, dt⟩ ((pathSplit pa).1) ([]) := by unfold sdoM; rw [hps]; rfl
  have h80 := split_few hf0
  obtain ⟨q0, hq0⟩ : ∃ q0, q0 = (pathSplit pa).1 := ⟨_, rfl⟩
  rw [← hq0] at hps hsd h80
  obtain ⟨o1, hd2⟩ := DoAt.start hk hS hM ⟨13, pa, to_, fd, at_, nn, til, sn, dt⟩ da dc
  have hb2 : Below w.heap.size w ((w.alloc (.cells (opC ⟨13, pa, to_, fd, at_, nn, til, sn, dt⟩ da dc) 36)).alloc (.cells (reC (noM 0) none none 0 0) 33)) := (wall w _).trans ((wall _ _).mono (by simp))
  obtain ⟨w2, hw2⟩ : ∃ w2, w2 = (w.alloc (.cells (opC ⟨13, pa, to_, fd, at_, nn, til, sn, dt⟩ da dc) 36)).alloc (.cells (reC (noM 0) none none 0 0) 33) := ⟨_, rfl⟩
  rw [← hw2] at hd2 hb2
  have hm2 : w2.cell? ⟨0, 0, none⟩ = some (.int .i64 m) := (hb2.cell (p := ⟨0, 0, none⟩) (World.block_lt_of_cell? w _ hm)).trans hm
  have hpc := paths_any p w2 ⟨13, pa, to_, fd, at_, nn, til, sn, dt⟩ da dc hx m hm2
  rw [hps] at hpc
  have HPC : Hid (Calls Tryz.prog 36 #[ptr p, .agg (opC ⟨13, pa, to_, fd, at_, nn, til, sn, dt⟩ da dc)] ((w.alloc (.cells (opC ⟨13, pa, to_, fd, at_, nn, til, sn, dt⟩ da dc) 36)).alloc (.cells (reC (noM 0) none none 0 0) 33)) (PathsRet w2 ([q0], 0))) := by rw [← hw2]; exact Lib.hid hpc
  unfold opC reC noM at HPC
  dsimp only [List.length_nil] at HPC
  have HSD := Lib.hid hsd
  have HOK := Lib.hid hok
  have HX := Lib.hid hx
  have HDA := Lib.hid (hda.below hb2 (Nat.le_refl _))
  have HD2 := Lib.hid hd2
  have HK := Lib.hid hk
  clear hS hM hk hok hx hda hm hp hps hsd hd2 hb2 hm2 hpc hw2 hps0 hf0 hq0
  unfold opC
  go_enter Tryz.func14, Tryz.ntmps14
  go_wp2_with fail
  (with_reducible refine HPC.out.mono ?_)
  clear HPC
  intro e w3 hpr
  obtain ⟨b, off, c3, a0, c0, rfl, hb0, hbw, hn0, hb3⟩ := hpr.one
  clear hpr
  have HD := Lib.hid (HD2.out.grow hb3)
  have HB3 := Lib.hid hb3
  have HBF : Hid (o1 b = 0 ∧ b < w3.heap.size) := ⟨Decidable.byContradiction fun h0 => by have := (HD2.out.marks.new b h0).2; omega, hbw⟩
  have hc0 := hn0.cell
  have HN0 := Lib.hid hn0
  clear hn0
  have HDA3 := Lib.hid (HDA.out.below hb3 (Nat.le_refl _))
  have g0 : w3.cell? ⟨w.heap.size, 0, none⟩ = some (.int .i64 13) := by simp [World.cell?, HD.out.op, opC]
  clear hb3 HD2 HDA
  have HDD := Lib.hid (HD.out.grow (Below.refl _ _).drew)
  have hMd := HDD.out.marks
  have HST0 := Lib.hid (HN0.out.strs.below (Below.refl _ _).drew (Nat.le_refl _))
  have hsd : sdoM M ⟨13, pa, to_, fd, at_, nn, til, sn, dt⟩ = ofEr (skeepM M q0 til) := HSD.out
  replace HSD := Lib.hid hsd
  clear hsd
  have HC := Lib.hid (skeep_any HDD.out.st hMd HK.out.mm HOK.out.t.1 a0 q0.length c0 q0 HST0.out HN0.out.cap (by omega) (look_wf HOK.out.t.1 q0) til HX.out.wt (nodeAt_wf HOK.out.t.1 q0))
  obtain ⟨rr, hrr⟩ : ∃ rr, rr = skeepM M q0 til := ⟨_, rfl⟩
  rw [← hrr] at HC HSD
  unfold ofEr at HSD
  clear hrr hMd
  have g6 : w3.cell? ⟨w.heap.size, 6, none⟩ = some (.int .u64 til) := by simp [World.cell?, HD.out.op, opC]
  go_wp2_with fail
  refine wp_region_noPanic ?_
  refine wp_region_L (last := 8) (S := (fun w' => w'.cell? ⟨b, off, none⟩ = some (.slice a0 q0.length c0) ∧ w'.cell? ⟨w.heap.size, 6, none⟩ = some (.int .u64 til))) (by kernel_rfl) ?_ (fun hS => ?_)
  · exact ⟨hc0, g6⟩
  refine wpAnyL_take (i := 0) (oi := ?oi1) (v := ?v1) ?hi1 (by kernel_rfl) (by kernel_rfl) (by kernel_rfl) (by kernel_rfl) (by kernel_rfl) ?hq1 (Or.inl ⟨?hw1, ?hy1⟩) hS ?rest1
  case hi1 => simp only [List.getElem?_toArray, List.getElem?_cons_succ, List.getElem?_cons_zero]; rfl
  case hq1 => exact fun _ _ _ h => h
  case hw1 => rfl
  case hy1 => intro w hSw; (try dsimp only at hSw); go_simp; (try with_reducible rfl)
  try simp only [Act.put, List.setIfInBounds_toArray, List.set_cons_zero, List.set_cons_succ]
  refine wpAnyL_take (i := 1) (oi := ?oi2) (v := ?v2) ?hi2 (by kernel_rfl) (by kernel_rfl) (by kernel_rfl) (by kernel_rfl) (by kernel_rfl) ?hq2 (Or.inl ⟨?hw2, ?hy2⟩) hS ?rest2
  case hi2 => simp only [List.getElem?_toArray, List.getElem?_cons_succ, List.getElem?_cons_zero]; rfl
  case hq2 => exact fun _ _ _ h => h
  case hw2 => rfl
  case hy2 => intro w hSw; (try dsimp only at hSw); go_simp; (try with_reducible rfl)
  try simp only [Act.put, List.setIfInBounds_toArray, List.set_cons_zero, List.set_cons_succ]
  refine wpAnyL_take (i := 2) (oi := ?oi3) (v := ?v3) ?hi3 (by kernel_rfl) (by kernel_rfl) (by kernel_rfl) (by kernel_rfl) (by kernel_rfl) ?hq3 (Or.inl ⟨?hw3, ?hy3⟩) hS ?rest3
  case hi3 => simp only [List.getElem?_toArray, List.getElem?_cons_succ, List.getElem?_cons_zero]; rfl
  case hq3 => exact fun _ _ _ h => h
  case hw3 => rfl
  case hy3 => intro w hSw; (try dsimp only at hSw); go_simp; (try with_reducible rfl)
  try simp only [Act.put, List.setIfInBounds_toArray, List.set_cons_zero, List.set_cons_succ]
  refine wpAnyL_take (i := 3) (oi := ?oi4) (v := ?v4) ?hi4 (by kernel_rfl) (by kernel_rfl) (by kernel_rfl) (by kernel_rfl) (by kernel_rfl) ?hq4 (Or.inl ⟨?hw4, ?hy4⟩) hS ?rest4
  case hi4 => simp only [List.getElem?_toArray, List.getElem?_cons_succ, List.getElem?_cons_zero]; rfl
  case hq4 => exact fun _ _ _ h => h
  case hw4 => rfl
  case hy4 => intro w hSw; (try dsimp only at hSw); go_simp; (try with_reducible rfl)
  try simp only [Act.put, List.setIfInBounds_toArray, List.set_cons_zero, List.set_cons_succ]
  refine wpAnyL_take (i := 4) (oi := ?oi5) (v := ?v5) ?hi5 (by kernel_rfl) (by kernel_rfl) (by kernel_rfl) (by kernel_rfl) (by kernel_rfl) ?hq5 (Or.inl ⟨?hw5, ?hy5⟩) hS ?rest5
  case hi5 => simp only [List.getElem?_toArray, List.getElem?_cons_succ, List.getElem?_cons_zero]; rfl
  case hq5 => exact fun _ _ _ h => h
  case hw5 => rfl
  case hy5 => intro w hSw; (try dsimp only at hSw); go_simp; (try with_reducible rfl)
  try simp only [Act.put, List.setIfInBounds_toArray, List.set_cons_zero, List.set_cons_succ]
  refine wpAnyL_take (i := 5) (oi := ?oi6) (v := ?v6) ?hi6 (by kernel_rfl) (by kernel_rfl) (by kernel_rfl) (by kernel_rfl) (by kernel_rfl) ?hq6 (Or.inl ⟨?hw6, ?hy6⟩) hS ?rest6
  case hi6 => simp only [List.getElem?_toArray, List.getElem?_cons_succ, List.getElem?_cons_zero]; rfl
  case hq6 => exact fun _ _ _ h => h
  case hw6 => rfl
  case hy6 => intro w hSw; (try dsimp only at hSw); go_simp; (try with_reducible rfl)
  try simp only [Act.put, List.setIfInBounds_toArray, List.set_cons_zero, List.set_cons_succ]
  refine wpAnyL_ready (rs := [6]) (by kernel_rfl) (by simp) ?_
  refine AllReadyL.cons (o := ?o7) ?ho7 (fun K hK => ?_) AllReadyL.nil
  case ho7 => simp only [List.getElem?_toArray, List.getElem?_cons_succ, List.getElem?_cons_zero]; rfl
  go_simp
  (with_reducible refine HC.out.mono ?_)
  rintro e w4 ⟨rfl, o4, hs4, hS4⟩
  have HD4 := Lib.hid (HDD.out.turn hs4 hS4)
  have hb4 : w4.heap[b]? = w3.heap[b]? := HDD.out.stays hs4 HBF.out
  have ho4 : w4.heap[w.heap.size]? = w3.heap[w.heap.size]? := HDD.out.stays hs4 HDD.out.opb
  clear hs4 hS4 HC
  have HS4 : Hid ((fun w' => w'.cell? ⟨b, off, none⟩ = some (.slice a0 q0.length c0) ∧ w'.cell? ⟨w.heap.size, 6, none⟩ = some (.int .u64 til)) w4) := ⟨(World.cell?_of_block hb4).trans hc0, (World.cell?_of_block ho4).trans g6⟩
  clear hb4 ho4
  go_wp2_with fail
  refine hK.out _ _ (fun _ => HS4.out) (fun hS => ?_)
  replace hS := hS (by decide)
  clear hK K
  try simp only [Act.put, List.setIfInBounds_toArray, List.set_cons_zero, List.set_cons_succ]
  refine wpAnyL_ready (rs := [7]) (by kernel_rfl) (by simp) ?_
  refine AllReadyL.cons (o := ?o8) ?ho8 (fun K hK => ?_) AllReadyL.nil
  case ho8 => simp only [List.getElem?_toArray, List.getElem?_cons_succ, List.getElem?_cons_zero]; rfl
  go_simp
  (with_reducible refine (no_any _ _).mono ?_)
  rintro e w9 ⟨rfl, hb9⟩
  unfold noV
  have HD9 := Lib.hid (HD4.out.grow hb9)
  have HS9 : Hid ((fun w' => w'.cell? ⟨b, off, none⟩ = some (.slice a0 q0.length c0) ∧ w'.cell? ⟨w.heap.size, 6, none⟩ = some (.int .u64 til)) w9) := ⟨(hb9.cell (World.block_lt_of_cell? w4 _ HS4.out.1)).trans HS4.out.1, (hb9.cell (World.block_lt_of_cell? w4 _ HS4.out.2)).trans HS4.out.2⟩
  clear hb9
  go_wp2_with fail
  refine hK.out _ _ (fun _ => HS9.out) (fun hS => ?_)
  replace hS := hS (by decide)
  clear hK K
  try simp only [Act.put, List.setIfInBounds_toArray, List.set_cons_zero, List.set_cons_succ]
  refine wpAnyL_ready (rs := [8]) (by kernel_rfl) (by simp) ?_
  refine AllReadyL.cons (o := ?o9) ?ho9 (fun K hK => ?_) AllReadyL.nil
  case ho9 => simp only [List.getElem?_toArray, List.getElem?_cons_succ, List.getElem?_cons_zero]; rfl
  refine step_store_rep rfl 33 _ _ rfl (w.heap.size + 1) (reC (noM (rr.1)) none none 0 0) rfl rfl _ HD9.out.re repSize rfl (reC_one _ _ _ _ _) ?_
  intro w5 hs5
  have HS5 := Lib.hid hs5
  clear hs5
  refine hK.out _ _ (fun h => absurd rfl h) (fun hS => ?_)
  clear hS hK K
  try simp only [Act.put, List.setIfInBounds_toArray, List.set_cons_zero, List.set_cons_succ]
  refine wpAnyL_done (by kernel_rfl) ?_ _
  refine NoPanic.normal ?_
  go_wp2_with fail
  exact ret_rep rfl rfl rfl HS5.out.1 (by rw [HSD.out]; exact HD9.out.fin0 HS5.out rfl rfl)
set_option maxRecDepth 100000 in
set_option maxHeartbeats 8000000 in
theorem sdo_k14 {S : Nat → Prop} (hS : StateO o i j k w p M) (hM : Marks W o w) (hk : Mk5 i j k l n) (cc : Int) (hok : StOk cc M) (hcc : cc ≤ 1000000000) (pa to_ : List UInt8) (fd at_ nn til sn : Int) (dt : List UInt8) (hx : OpOk ⟨14, pa, to_, fd, at_, nn, til, sn, dt⟩) (da : Option Addr) (dc : Nat) (hda : RowAt S w da dt.length (dt.map bv)) (m : Int) (hm : w.cell? ⟨0, 0, none⟩ = some (.int .i64 m)) (hp : (pathsO ⟨14, pa, to_, fd, at_, nn, til, sn, dt⟩).2 = 0) :
    Calls Tryz.prog 14 #[ptr p, .agg (opC ⟨14, pa, to_, fd, at_, nn, til, sn, dt⟩ da dc)] w (DoRet o i j k l n w p (sdoM M ⟨14, pa, to_, fd, at_, nn, til, sn, dt⟩)) := by
  have hps : pathsO ⟨14, pa, to_, fd, at_, nn, til, sn, dt⟩ = ([], 0) := rfl
  have hsd : sdoM M ⟨14, pa, to_, fd, at_, nn, til, sn, dt⟩ = sdoP M ⟨14, pa, to_, fd, at_, nn, til, sn, dt⟩ ([]) ([]) := by unfold sdoM; rw [hps]; rfl
  obtain ⟨o1, hd2⟩ := DoAt.start hk hS hM ⟨14, pa, to_, fd, at_, nn, til, sn, dt⟩ da dc
  have hb2 : Below w.heap.size w ((w.alloc (.cells (opC ⟨14, pa, to_, fd, at_, nn, til, sn, dt⟩ da dc) 36)).alloc (.cells (reC (noM 0) none none 0 0) 33)) := (wall w _).trans ((wall _ _).mono (by simp))
  obtain ⟨w2, hw2⟩ : ∃ w2, w2 = (w.alloc (.cells (opC ⟨14, pa, to_, fd, at_, nn, til, sn, dt⟩ da dc) 36)).alloc (.cells (reC (noM 0) none none 0 0) 33) := ⟨_, rfl⟩
  rw [← hw2] at hd2 hb2
  have hm2 : w2.cell? ⟨0, 0, none⟩ = some (.int .i64 m) := (hb2.cell (p := ⟨0, 0, none⟩) (World.block_lt_of_cell? w _ hm)).trans hm
  have hpc := paths_any p w2 ⟨14, pa, to_, fd, at_, nn, til, sn, dt⟩ da dc hx m hm2
  rw [hps] at hpc
  have HPC : Hid (Calls Tryz.prog 36 #[ptr p, .agg (opC ⟨14, pa, to_, fd, at_, nn, til, sn, dt⟩ da dc)] ((w.alloc (.cells (opC ⟨14, pa, to_, fd, at_, nn, til, sn, dt⟩ da dc) 36)).alloc (.cells (reC (noM 0) none none 0 0) 33)) (PathsRet w2 ([], 0))) := by rw [← hw2]; exact Lib.hid hpc
  unfold opC reC noM at HPC
  dsimp only [List.length_nil] at HPC
  have HSD := Lib.hid hsd
  have HOK := Lib.hid hok
  have HX := Lib.hid hx
  have HDA := Lib.hid (hda.below hb2 (Nat.le_refl _))
  have HD2 := Lib.hid hd2
  have HK := Lib.hid hk
  clear hS hM hk hok hx hda hm hp hps hsd hd2 hb2 hm2 hpc hw2
  unfold opC
  go_enter Tryz.func14, Tryz.ntmps14
  go_wp2_with fail
  (with_reducible refine HPC.out.mono ?_)
  clear HPC
  intro e w3 hpr
  obtain ⟨a3, c3, rfl, hb3⟩ := hpr.zero
  clear hpr
  have HD := Lib.hid (HD2.out.grow hb3)
  have HB3 := Lib.hid hb3
  have HDA3 := Lib.hid (HDA.out.below hb3 (Nat.le_refl _))
  have g0 : w3.cell? ⟨w.heap.size, 0, none⟩ = some (.int .i64 14) := by simp [World.cell?, HD.out.op, opC]
  clear hb3 HD2 HDA
  have HDD := Lib.hid (HD.out.grow (Below.refl _ _).drew)
  have hMd := HDD.out.marks
  obtain ⟨t, s, z0, z1, z2, hT3, hS3, hsr⟩ := HDD.out.callS
  have z0' : w3.cell? ⟨p, 0, none⟩ = some (ptr t) := z0
  have z1' : w3.cell? ⟨p, 1, none⟩ = some (ptr s) := z1
  have z2' : w3.cell? ⟨p, 2, none⟩ = some (.int .u64 M.now) := z2
  have HSR := Lib.hid hsr
  have hsd : sdoM M ⟨14, pa, to_, fd, at_, nn, til, sn, dt⟩ = (⟨(takeM M.s M.t).1.2, (takeM M.s M.t).1.1, [], [], none⟩, M.sn (takeM M.s M.t).2) := HSD.out
  replace HSD := Lib.hid hsd
  clear hsd
  have HC := Lib.hid (take_any hS3 hT3 hMd HK.out.mm.ne.1 HOK.out.t.1 HOK.out.s.few HOK.out.s.last HOK.out.next.1 (by have := HOK.out.next.2; omega))
  obtain ⟨rr, hrr⟩ : ∃ rr, rr = takeM M.s M.t := ⟨_, rfl⟩
  rw [← hrr] at HC HSD
  clear hrr hsr hT3 hS3 hMd z0 z1 z2
  go_wp2_with fail
  refine wp_region_noPanic ?_
  refine wp_region_held_drew (S := (fun w' => w'.cell? ⟨p, 0, none⟩ = some (ptr t) ∧ w'.cell? ⟨p, 1, none⟩ = some (ptr s))) (by kernel_rfl) ?_ (fun hS => ?_)
  · exact ⟨z0', z1'⟩
  refine wpAnyH_take (i := 0) (oi := ?oi10) (v := ?v10) ?hi10 (by kernel_rfl) (by kernel_rfl) (by kernel_rfl) ?hq10 (Or.inl ⟨?hw10, ?hy10⟩) hS ?rest10
  case hi10 => simp only [List.getElem?_toArray, List.getElem?_cons_succ, List.getElem?_cons_zero]; rfl
  case hq10 => exact fun _ _ _ h => h
  case hw10 => rfl
  case hy10 => intro w hSw; (try dsimp only at hSw); go_simp; (try with_reducible rfl)
  try simp only [Act.put, List.setIfInBounds_toArray, List.set_cons_zero, List.set_cons_succ]
  refine wpAnyH_take (i := 1) (oi := ?oi11) (v := ?v11) ?hi11 (by kernel_rfl) (by kernel_rfl) (by kernel_rfl) ?hq11 (Or.inl ⟨?hw11, ?hy11⟩) hS ?rest11
  case hi11 => simp only [List.getElem?_toArray, List.getElem?_cons_succ, List.getElem?_cons_zero]; rfl
  case hq11 => exact fun _ _ _ h => h
  case hw11 => rfl
  case hy11 => intro w hSw; (try dsimp only at hSw); go_simp; (try with_reducible rfl)
  try simp only [Act.put, List.setIfInBounds_toArray, List.set_cons_zero, List.set_cons_succ]
  refine wpAnyH_take (i := 2) (oi := ?oi12) (v := ?v12) ?hi12 (by kernel_rfl) (by kernel_rfl) (by kernel_rfl) ?hq12 (Or.inl ⟨?hw12, ?hy12⟩) hS ?rest12
  case hi12 => simp only [List.getElem?_toArray, List.getElem?_cons_succ, List.getElem?_cons_zero]; rfl
  case hq12 => exact fun _ _ _ h => h
  case hw12 => rfl
  case hy12 => intro w hSw; (try dsimp only at hSw); go_simp; (try with_reducible rfl)
  try simp only [Act.put, List.setIfInBounds_toArray, List.set_cons_zero, List.set_cons_succ]
  refine wpAnyH_take (i := 3) (oi := ?oi13) (v := ?v13) ?hi13 (by kernel_rfl) (by kernel_rfl) (by kernel_rfl) ?hq13 (Or.inl ⟨?hw13, ?hy13⟩) hS ?rest13
  case hi13 => simp only [List.getElem?_toArray, List.getElem?_cons_succ, List.getElem?_cons_zero]; rfl
  case hq13 => exact fun _ _ _ h => h
  case hw13 => rfl
  case hy13 => intro w hSw; (try dsimp only at hSw); go_simp; (try with_reducible rfl)
  try simp only [Act.put, List.setIfInBounds_toArray, List.set_cons_zero, List.set_cons_succ]
  refine wpAnyH_take (i := 4) (oi := ?oi14) (v := ?v14) ?hi14 (by kernel_rfl) (by kernel_rfl) (by kernel_rfl) ?hq14 (Or.inl ⟨?hw14, ?hy14⟩) hS ?rest14
  case hi14 => simp only [List.getElem?_toArray, List.getElem?_cons_succ, List.getElem?_cons_zero]; rfl
  case hq14 => exact fun _ _ _ h => h
  case hw14 => rfl
  case hy14 => intro w hSw; (try dsimp only at hSw); go_simp; (try with_reducible rfl)
  try simp only [Act.put, List.setIfInBounds_toArray, List.set_cons_zero, List.set_cons_succ]
  refine wpAnyH_take (i := 5) (oi := ?oi15) (v := ?v15) ?hi15 (by kernel_rfl) (by kernel_rfl) (by kernel_rfl) ?hq15 (Or.inl ⟨?hw15, ?hy15⟩) hS ?rest15
  case hi15 => simp only [List.getElem?_toArray, List.getElem?_cons_succ, List.getElem?_cons_zero]; rfl
  case hq15 => exact fun _ _ _ h => h
  case hw15 => rfl
  case hy15 => intro w hSw; (try dsimp only at hSw); go_simp; (try with_reducible rfl)
  try simp only [Act.put, List.setIfInBounds_toArray, List.set_cons_zero, List.set_cons_succ]
  refine wpAnyH_take (i := 6) (oi := ?oi16) (v := ?v16) ?hi16 (by kernel_rfl) (by kernel_rfl) (by kernel_rfl) ?hq16 (Or.inl ⟨?hw16, ?hy16⟩) hS ?rest16
  case hi16 => simp only [List.getElem?_toArray, List.getElem?_cons_succ, List.getElem?_cons_zero]; rfl
  case hq16 => exact fun _ _ _ h => h
  case hw16 => rfl
  case hy16 => intro w hSw; (try dsimp only at hSw); go_simp; (try with_reducible rfl)
  try simp only [Act.put, List.setIfInBounds_toArray, List.set_cons_zero, List.set_cons_succ]
  refine wpAnyH_take (i := 7) (oi := ?oi17) (v := ?v17) ?hi17 (by kernel_rfl) (by kernel_rfl) (by kernel_rfl) ?hq17 (Or.inl ⟨?hw17, ?hy17⟩) hS ?rest17
  case hi17 => simp only [List.getElem?_toArray, List.getElem?_cons_succ, List.getElem?_cons_zero]; rfl
  case hq17 => exact fun _ _ _ h => h
  case hw17 => rfl
  case hy17 => intro w hSw; (try dsimp only at hSw); go_simp; (try with_reducible rfl)
  try simp only [Act.put, List.setIfInBounds_toArray, List.set_cons_zero, List.set_cons_succ]
  refine wpAnyH_ready (rs := [8]) (by kernel_rfl) (by simp) ?_
  refine AllReadyH.cons (o := ?o18) ?ho18 (fun K hK => ?_) AllReadyH.nil
  case ho18 => simp only [List.getElem?_toArray, List.getElem?_cons_succ, List.getElem?_cons_zero]; rfl
  go_simp
  (with_reducible refine HC.out.mono ?_)
  rintro e w4 ⟨rfl, o4, hs4, hS4⟩
  obtain ⟨hd4, hp4⟩ := HSR.out _ _ _ hs4 hS4
  have HD4 := Lib.hid hd4
  have hp4' : w4.heap[p]? = w3.heap[p]? := hp4
  clear hd4 hs4 hS4 hp4 HC
  have HS4 : Hid ((fun w' => w'.cell? ⟨p, 0, none⟩ = some (ptr t) ∧ w'.cell? ⟨p, 1, none⟩ = some (ptr s)) w4) := ⟨(World.cell?_of_block hp4').trans z0', (World.cell?_of_block hp4').trans z1'⟩
  clear hp4'
  go_wp2_with fail
  refine hK.out _ _ (HS4.out) (fun hS => ?_)
  clear hK K
  try simp only [Act.put, List.setIfInBounds_toArray, List.set_cons_zero, List.set_cons_succ]
  refine wpAnyH_take (i := 9) (oi := ?oi19) (v := ?v19) ?hi19 (by kernel_rfl) (by kernel_rfl) (by kernel_rfl) ?hq19 (Or.inl ⟨?hw19, ?hy19⟩) hS ?rest19
  case hi19 => simp only [List.getElem?_toArray, List.getElem?_cons_succ, List.getElem?_cons_zero]; rfl
  case hq19 => exact fun _ _ _ h => h
  case hw19 => rfl
  case hy19 => intro w hSw; (try dsimp only at hSw); go_simp; (try with_reducible rfl)
  try simp only [Act.put, List.setIfInBounds_toArray, List.set_cons_zero, List.set_cons_succ]
  refine wpAnyH_take (i := 10) (oi := ?oi20) (v := ?v20) ?hi20 (by kernel_rfl) (by kernel_rfl) (by kernel_rfl) ?hq20 (Or.inl ⟨?hw20, ?hy20⟩) hS ?rest20
  case hi20 => simp only [List.getElem?_toArray, List.getElem?_cons_succ, List.getElem?_cons_zero]; rfl
  case hq20 => exact fun _ _ _ h => h
  case hw20 => rfl
  case hy20 => intro w hSw; (try dsimp only at hSw); go_simp; (try with_reducible rfl)
  try simp only [Act.put, List.setIfInBounds_toArray, List.set_cons_zero, List.set_cons_succ]
  refine wpAnyH_take (i := 11) (oi := ?oi21) (v := ?v21) ?hi21 (by kernel_rfl) (by kernel_rfl) (by kernel_rfl) ?hq21 (Or.inl ⟨?hw21, ?hy21⟩) hS ?rest21
  case hi21 => simp only [List.getElem?_toArray, List.getElem?_cons_succ, List.getElem?_cons_zero]; rfl
  case hq21 => exact fun _ _ _ h => h
  case hw21 => rfl
  case hy21 => intro w hSw; (try dsimp only at hSw); go_simp; (try with_reducible rfl)
  try simp only [Act.put, List.setIfInBounds_toArray, List.set_cons_zero, List.set_cons_succ]
  refine wpAnyH_take (i := 12) (oi := ?oi22) (v := ?v22) ?hi22 (by kernel_rfl) (by kernel_rfl) (by kernel_rfl) ?hq22 (Or.inl ⟨?hw22, ?hy22⟩) hS ?rest22
  case hi22 => simp only [List.getElem?_toArray, List.getElem?_cons_succ, List.getElem?_cons_zero]; rfl
  case hq22 => exact fun _ _ _ h => h
  case hw22 => rfl
  case hy22 => intro w hSw; (try dsimp only at hSw); go_simp; (try with_reducible rfl)
  try simp only [Act.put, List.setIfInBounds_toArray, List.set_cons_zero, List.set_cons_succ]
  refine wpAnyH_take (i := 13) (oi := ?oi23) (v := ?v23) ?hi23 (by kernel_rfl) (by kernel_rfl) (by kernel_rfl) ?hq23 (Or.inl ⟨?hw23, ?hy23⟩) hS ?rest23
  case hi23 => simp only [List.getElem?_toArray, List.getElem?_cons_succ, List.getElem?_cons_zero]; rfl
  case hq23 => exact fun _ _ _ h => h
  case hw23 => rfl
  case hy23 => intro w hSw; (try dsimp only at hSw); go_simp; (try with_reducible rfl)
  try simp only [Act.put, List.setIfInBounds_toArray, List.set_cons_zero, List.set_cons_succ]
  refine wpAnyH_done (by kernel_rfl) ?_ _
  refine NoPanic.normal ?_
  go_wp2_with (refine wpList_store_rep (by rfl) 33 _ _ (by rfl) (w.heap.size + 1) (reC ⟨rr.1.2, rr.1.1, [], [], none⟩ none none 0 0) (by rfl) (by rfl) _ HD4.out.re repSize rfl (reC_one _ _ _ _ _) ?_; intro w5 hs5; have HS5 := Lib.hid hs5; clear hs5)
  exact ret_rep rfl rfl rfl HS5.out.1 (by rw [HSD.out]; exact HD4.out.fin0 HS5.out rfl rfl)
set_option maxRecDepth 100000 in
set_option maxHeartbeats 8000000 in
theorem sdo_k15 {S : Nat → Prop} (hS : StateO o i j k w p M) (hM : Marks W o w) (hk : Mk5 i j k l n) (cc : Int) (hok : StOk cc M) (hcc : cc ≤ 1000000000) (pa to_ : List UInt8) (fd at_ nn til sn : Int) (dt : List UInt8) (hx : OpOk ⟨15, pa, to_, fd, at_, nn, til, sn, dt⟩) (da : Option Addr) (dc : Nat) (hda : RowAt S w da dt.length (dt.map bv)) (m : Int) (hm : w.cell? ⟨0, 0, none⟩ = some (.int .i64 m)) (hp : (pathsO ⟨15, pa, to_, fd, at_, nn, til, sn, dt⟩).2 = 0) :
    Calls Tryz.prog 14 #[ptr p, .agg (opC ⟨15, pa, to_, fd, at_, nn, til, sn, dt⟩ da dc)] w (DoRet o i j k l n w p (sdoM M ⟨15, pa, to_, fd, at_, nn, til, sn, dt⟩)) := by
  have hps : pathsO ⟨15, pa, to_, fd, at_, nn, til, sn, dt⟩ = ([], 0) := rfl
  have hsd : sdoM M ⟨15, pa, to_, fd, at_, nn, til, sn, dt⟩ = sdoP M ⟨15, pa, to_, fd, at_, nn, til, sn, dt⟩ ([]) ([]) := by unfold sdoM; rw [hps]; rfl
  obtain ⟨o1, hd2⟩ := DoAt.start hk hS hM ⟨15, pa, to_, fd, at_, nn, til, sn, dt⟩ da dc
  have hb2 : Below w.heap.size w ((w.alloc (.cells (opC ⟨15, pa, to_, fd, at_, nn, til, sn, dt⟩ da dc) 36)).alloc (.cells (reC (noM 0) none none 0 0) 33)) := (wall w _).trans ((wall _ _).mono (by simp))
  obtain ⟨w2, hw2⟩ : ∃ w2, w2 = (w.alloc (.cells (opC ⟨15, pa, to_, fd, at_, nn, til, sn, dt⟩ da dc) 36)).alloc (.cells (reC (noM 0) none none 0 0) 33) := ⟨_, rfl⟩
  rw [← hw2] at hd2 hb2
  have hm2 : w2.cell? ⟨0, 0, none⟩ = some (.int .i64 m) := (hb2.cell (p := ⟨0, 0, none⟩) (World.block_lt_of_cell? w _ hm)).trans hm
  have hpc := paths_any p w2 ⟨15, pa, to_, fd, at_, nn, til, sn, dt⟩ da dc hx m hm2
  rw [hps] at hpc
  have HPC : Hid (Calls Tryz.prog 36 #[ptr p, .agg (opC ⟨15, pa, to_, fd, at_, nn, til, sn, dt⟩ da dc)] ((w.alloc (.cells (opC ⟨15, pa, to_, fd, at_, nn, til, sn, dt⟩ da dc) 36)).alloc (.cells (reC (noM 0) none none 0 0) 33)) (PathsRet w2 ([], 0))) := by rw [← hw2]; exact Lib.hid hpc
  unfold opC reC noM at HPC
  dsimp only [List.length_nil] at HPC
  have HSD := Lib.hid hsd
  have HOK := Lib.hid hok
  have HX := Lib.hid hx
  have HDA := Lib.hid (hda.below hb2 (Nat.le_refl _))
  have HD2 := Lib.hid hd2
  have HK := Lib.hid hk
  clear hS hM hk hok hx hda hm hp hps hsd hd2 hb2 hm2 hpc hw2
  unfold opC
  go_enter Tryz.func14, Tryz.ntmps14
  go_wp2_with fail
  (with_reducible refine HPC.out.mono ?_)
  clear HPC
  intro e w3 hpr
  obtain ⟨a3, c3, rfl, hb3⟩ := hpr.zero
  clear hpr
  have HD := Lib.hid (HD2.out.grow hb3)
  have HB3 := Lib.hid hb3
  have HDA3 := Lib.hid (HDA.out.below hb3 (Nat.le_refl _))
  have g0 : w3.cell? ⟨w.heap.size, 0, none⟩ = some (.int .i64 15) := by simp [World.cell?, HD.out.op, opC]
  clear hb3 HD2 HDA
  have HDD := Lib.hid (HD.out.grow (Below.refl _ _).drew)
  have hMd := HDD.out.marks
  obtain ⟨t, s, z0, z1, z2, hT3, hS3, hsr⟩ := HDD.out.callS
  have z0' : w3.cell? ⟨p, 0, none⟩ = some (ptr t) := z0
  have z1' : w3.cell? ⟨p, 1, none⟩ = some (ptr s) := z1
  have z2' : w3.cell? ⟨p, 2, none⟩ = some (.int .u64 M.now) := z2
  have HSR := Lib.hid hsr
  have hsd : sdoM M ⟨15, pa, to_, fd, at_, nn, til, sn, dt⟩ = (noM (sforgetM M.s sn M.now).1, M.sn (sforgetM M.s sn M.now).2) := HSD.out
  replace HSD := Lib.hid hsd
  clear hsd
  have HC := Lib.hid (forget_any hS3 hMd HK.out.mm.ne.1 HOK.out.s.few sn M.now)
  clear hsr hT3 hS3 hMd z0 z1 z2
  have g7 : w3.cell? ⟨w.heap.size, 7, none⟩ = some (.int .i64 sn) := by simp [World.cell?, HD.out.op, opC]
  go_wp2_with fail
  refine wp_region_noPanic ?_
  refine wp_region_L (last := 12) (S := (fun w' => w'.cell? ⟨p, 1, none⟩ = some (ptr s) ∧ w'.cell? ⟨p, 2, none⟩ = some (.int .u64 M.now) ∧ w'.cell? ⟨w.heap.size, 7, none⟩ = some (.int .i64 sn))) (by kernel_rfl) ?_ (fun hS => ?_)
  · exact ⟨z1', z2', g7⟩
  refine wpAnyL_take (i := 0) (oi := ?oi24) (v := ?v24) ?hi24 (by kernel_rfl) (by kernel_rfl) (by kernel_rfl) (by kernel_rfl) (by kernel_rfl) ?hq24 (Or.inl ⟨?hw24, ?hy24⟩) hS ?rest24
  case hi24 => simp only [List.getElem?_toArray, List.getElem?_cons_succ, List.getElem?_cons_zero]; rfl
  case hq24 => exact fun _ _ _ h => h
  case hw24 => rfl
  case hy24 => intro w hSw; (try dsimp only at hSw); go_simp; (try with_reducible rfl)
  try simp only [Act.put, List.setIfInBounds_toArray, List.set_cons_zero, List.set_cons_succ]
  refine wpAnyL_take (i := 1) (oi := ?oi25) (v := ?v25) ?hi25 (by kernel_rfl) (by kernel_rfl) (by kernel_rfl) (by kernel_rfl) (by kernel_rfl) ?hq25 (Or.inl ⟨?hw25, ?hy25⟩) hS ?rest25
  case hi25 => simp only [List.getElem?_toArray, List.getElem?_cons_succ, List.getElem?_cons_zero]; rfl
  case hq25 => exact fun _ _ _ h => h
  case hw25 => rfl
  case hy25 => intro w hSw; (try dsimp only at hSw); go_simp; (try with_reducible rfl)
  try simp only [Act.put, List.setIfInBounds_toArray, List.set_cons_zero, List.set_cons_succ]
  refine wpAnyL_take (i := 2) (oi := ?oi26) (v := ?v26) ?hi26 (by kernel_rfl) (by kernel_rfl) (by kernel_rfl) (by kernel_rfl) (by kernel_rfl) ?hq26 (Or.inl ⟨?hw26, ?hy26⟩) hS ?rest26
  case hi26 => simp only [List.getElem?_toArray, List.getElem?_cons_succ, List.getElem?_cons_zero]; rfl
  case hq26 => exact fun _ _ _ h => h
  case hw26 => rfl
  case hy26 => intro w hSw; (try dsimp only at hSw); go_simp; (try with_reducible rfl)
  try simp only [Act.put, List.setIfInBounds_toArray, List.set_cons_zero, List.set_cons_succ]
  refine wpAnyL_take (i := 3) (oi := ?oi27) (v := ?v27) ?hi27 (by kernel_rfl) (by kernel_rfl) (by kernel_rfl) (by kernel_rfl) (by kernel_rfl) ?hq27 (Or.inl ⟨?hw27, ?hy27⟩) hS ?rest27
  case hi27 => simp only [List.getElem?_toArray, List.getElem?_cons_succ, List.getElem?_cons_zero]; rfl
  case hq27 => exact fun _ _ _ h => h
  case hw27 => rfl
  case hy27 => intro w hSw; (try dsimp only at hSw); go_simp; (try with_reducible rfl)
  try simp only [Act.put, List.setIfInBounds_toArray, List.set_cons_zero, List.set_cons_succ]
  refine wpAnyL_take (i := 4) (oi := ?oi28) (v := ?v28) ?hi28 (by kernel_rfl) (by kernel_rfl) (by kernel_rfl) (by kernel_rfl) (by kernel_rfl) ?hq28 (Or.inl ⟨?hw28, ?hy28⟩) hS ?rest28
  case hi28 => simp only [List.getElem?_toArray, List.getElem?_cons_succ, List.getElem?_cons_zero]; rfl
  case hq28 => exact fun _ _ _ h => h
  case hw28 => rfl
  case hy28 => intro w hSw; (try dsimp only at hSw); go_simp; (try with_reducible rfl)
  try simp only [Act.put, List.setIfInBounds_toArray, List.set_cons_zero, List.set_cons_succ]
  refine wpAnyL_take (i := 5) (oi := ?oi29) (v := ?v29) ?hi29 (by kernel_rfl) (by kernel_rfl) (by kernel_rfl) (by kernel_rfl) (by kernel_rfl) ?hq29 (Or.inl ⟨?hw29, ?hy29⟩) hS ?rest29
  case hi29 => simp only [List.getElem?_toArray, List.getElem?_cons_succ, List.getElem?_cons_zero]; rfl
  case hq29 => exact fun _ _ _ h => h
  case hw29 => rfl
  case hy29 => intro w hSw; (try dsimp only at hSw); go_simp; (try with_reducible rfl)
  try simp only [Act.put, List.setIfInBounds_toArray, List.set_cons_zero, List.set_cons_succ]
  refine wpAnyL_take (i := 6) (oi := ?oi30) (v := ?v30) ?hi30 (by kernel_rfl) (by kernel_rfl) (by kernel_rfl) (by kernel_rfl) (by kernel_rfl) ?hq30 (Or.inl ⟨?hw30, ?hy30⟩) hS ?rest30
  case hi30 => simp only [List.getElem?_toArray, List.getElem?_cons_succ, List.getElem?_cons_zero]; rfl
  case hq30 => exact fun _ _ _ h => h
  case hw30 => rfl
  case hy30 => intro w hSw; (try dsimp only at hSw); go_simp; (try with_reducible rfl)
  try simp only [Act.put, List.setIfInBounds_toArray, List.set_cons_zero, List.set_cons_succ]
  refine wpAnyL_take (i := 7) (oi := ?oi31) (v := ?v31) ?hi31 (by kernel_rfl) (by kernel_rfl) (by kernel_rfl) (by kernel_rfl) (by kernel_rfl) ?hq31 (Or.inl ⟨?hw31, ?hy31⟩) hS ?rest31
  case hi31 => simp only [List.getElem?_toArray, List.getElem?_cons_succ, List.getElem?_cons_zero]; rfl
  case hq31 => exact fun _ _ _ h => h
  case hw31 => rfl
  case hy31 => intro w hSw; (try dsimp only at hSw); go_simp; (try with_reducible rfl)
  try simp only [Act.put, List.setIfInBounds_toArray, List.set_cons_zero, List.set_cons_succ]
  refine wpAnyL_take (i := 8) (oi := ?oi32) (v := ?v32) ?hi32 (by kernel_rfl) (by kernel_rfl) (by kernel_rfl) (by kernel_rfl) (by kernel_rfl) ?hq32 (Or.inl ⟨?hw32, ?hy32⟩) hS ?rest32
  case hi32 => simp only [List.getElem?_toArray, List.getElem?_cons_succ, List.getElem?_cons_zero]; rfl
  case hq32 => exact fun _ _ _ h => h
  case hw32 => rfl
  case hy32 => intro w hSw; (try dsimp only at hSw); go_simp; (try with_reducible rfl)
  try simp only [Act.put, List.setIfInBounds_toArray, List.set_cons_zero, List.set_cons_succ]
  refine wpAnyL_take (i := 9) (oi := ?oi33) (v := ?v33) ?hi33 (by kernel_rfl) (by kernel_rfl) (by kernel_rfl) (by kernel_rfl) (by kernel_rfl) ?hq33 (Or.inl ⟨?hw33, ?hy33⟩) hS ?rest33
  case hi33 => simp only [List.getElem?_toArray, List.getElem?_cons_succ, List.getElem?_cons_zero]; rfl
  case hq33 => exact fun _ _ _ h => h
  case hw33 => rfl
  case hy33 => intro w hSw; (try dsimp only at hSw); go_simp; (try with_reducible rfl)
  try simp only [Act.put, List.setIfInBounds_toArray, List.set_cons_zero, List.set_cons_succ]
  refine wpAnyL_ready (rs := [10]) (by kernel_rfl) (by simp) ?_
  refine AllReadyL.cons (o := ?o34) ?ho34 (fun K hK => ?_) AllReadyL.nil
  case ho34 => simp only [List.getElem?_toArray, List.getElem?_cons_succ, List.getElem?_cons_zero]; rfl
  go_simp
  (with_reducible refine HC.out.mono ?_)
  rintro e w4 ⟨er, S4, o4, rfl, hfr, hs4, hS4⟩
  have hfe := hfr.eq
  obtain ⟨hd4, hp4⟩ := HSR.out _ _ _ hs4 hS4
  have HD4 := Lib.hid hd4
  have hp4' : w4.heap[p]? = w3.heap[p]? := hp4
  have ho4 : w4.heap[w.heap.size]? = w3.heap[w.heap.size]? := HDD.out.stays (hs4.mono fun m hm => .inl hm) HDD.out.opb
  rw [hfe] at HSD
  clear hd4 hs4 hS4 hp4 HC hfr hfe
  have HS4 : Hid ((fun w' => w'.cell? ⟨p, 1, none⟩ = some (ptr s) ∧ w'.cell? ⟨p, 2, none⟩ = some (.int .u64 M.now) ∧ w'.cell? ⟨w.heap.size, 7, none⟩ = some (.int .i64 sn)) w4) := ⟨(World.cell?_of_block hp4').trans z1', (World.cell?_of_block hp4').trans z2', (World.cell?_of_block ho4).trans g7⟩
  clear hp4' ho4
  go_wp2_with fail
  refine hK.out _ _ (fun _ => HS4.out) (fun hS => ?_)
  replace hS := hS (by decide)
  clear hK K
  try simp only [Act.put, List.setIfInBounds_toArray, List.set_cons_zero, List.set_cons_succ]
  refine wpAnyL_ready (rs := [11]) (by kernel_rfl) (by simp) ?_
  refine AllReadyL.cons (o := ?o35) ?ho35 (fun K hK => ?_) AllReadyL.nil
  case ho35 => simp only [List.getElem?_toArray, List.getElem?_cons_succ, List.getElem?_cons_zero]; rfl
  go_simp
  (with_reducible refine (no_any _ _).mono ?_)
  rintro e w9 ⟨rfl, hb9⟩
  unfold noV
  have HD9 := Lib.hid (HD4.out.grow hb9)
  have HS9 : Hid ((fun w' => w'.cell? ⟨p, 1, none⟩ = some (ptr s) ∧ w'.cell? ⟨p, 2, none⟩ = some (.int .u64 M.now) ∧ w'.cell? ⟨w.heap.size, 7, none⟩ = some (.int .i64 sn)) w9) := ⟨(hb9.cell (World.block_lt_of_cell? w4 _ HS4.out.1)).trans HS4.out.1, (hb9.cell (World.block_lt_of_cell? w4 _ HS4.out.2.1)).trans HS4.out.2.1, (hb9.cell (World.block_lt_of_cell? w4 _ HS4.out.2.2)).trans HS4.out.2.2⟩
  clear hb9
  go_wp2_with fail
  refine hK.out _ _ (fun _ => HS9.out) (fun hS => ?_)
  replace hS := hS (by decide)
  clear hK K
  try simp only [Act.put, List.setIfInBounds_toArray, List.set_cons_zero, List.set_cons_succ]
  refine wpAnyL_ready (rs := [12]) (by kernel_rfl) (by simp) ?_
  refine AllReadyL.cons (o := ?o36) ?ho36 (fun K hK => ?_) AllReadyL.nil
  case ho36 => simp only [List.getElem?_toArray, List.getElem?_cons_succ, List.getElem?_cons_zero]; rfl
  refine step_store_rep rfl 33 _ _ rfl (w.heap.size + 1) (reC (noM er) none none 0 0) rfl rfl _ HD9.out.re repSize rfl (reC_one _ _ _ _ _) ?_
  intro w5 hs5
  have HS5 := Lib.hid hs5
  clear hs5
  refine hK.out _ _ (fun h => absurd rfl h) (fun hS => ?_)
  clear hS hK K
  try simp only [Act.put, List.setIfInBounds_toArray, List.set_cons_zero, List.set_cons_succ]
  refine wpAnyL_done (by kernel_rfl) ?_ _
  refine NoPanic.normal ?_
  go_wp2_with fail
  exact ret_rep rfl rfl rfl HS5.out.1 (by rw [HSD.out]; exact HD9.out.fin0 HS5.out rfl rfl)
set_option maxRecDepth 100000 in
set_option maxHeartbeats 8000000 in
theorem sdo_k16 {S : Nat → Prop} (hS : StateO o i j k w p M) (hM : Marks W o w) (hk : Mk5 i j k l n) (cc : Int) (hok : StOk cc M) (hcc : cc ≤ 1000000000) (pa to_ : List UInt8) (fd at_ nn til sn : Int) (dt : List UInt8) (hx : OpOk ⟨16, pa, to_, fd, at_, nn, til, sn, dt⟩) (da : Option Addr) (dc : Nat) (hda : RowAt S w da dt.length (dt.map bv)) (m : Int) (hm : w.cell? ⟨0, 0, none⟩ = some (.int .i64 m)) (hp : (pathsO ⟨16, pa, to_, fd, at_, nn, til, sn, dt⟩).2 = 0) :
    Calls Tryz.prog 14 #[ptr p, .agg (opC ⟨16, pa, to_, fd, at_, nn, til, sn, dt⟩ da dc)] w (DoRet o i j k l n w p (sdoM M ⟨16, pa, to_, fd, at_, nn, til, sn, dt⟩)) := by
  have hps : pathsO ⟨16, pa, to_, fd, at_, nn, til, sn, dt⟩ = ([], 0) := rfl
  have hsd : sdoM M ⟨16, pa, to_, fd, at_, nn, til, sn, dt⟩ = sdoP M ⟨16, pa, to_, fd, at_, nn, til, sn, dt⟩ ([]) ([]) := by unfold sdoM; rw [hps]; rfl
  obtain ⟨o1, hd2⟩ := DoAt.start hk hS hM ⟨16, pa, to_, fd, at_, nn, til, sn, dt⟩ da dc
  have hb2 : Below w.heap.size w ((w.alloc (.cells (opC ⟨16, pa, to_, fd, at_, nn, til, sn, dt⟩ da dc) 36)).alloc (.cells (reC (noM 0) none none 0 0) 33)) := (wall w _).trans ((wall _ _).mono (by simp))
  obtain ⟨w2, hw2⟩ : ∃ w2, w2 = (w.alloc (.cells (opC ⟨16, pa, to_, fd, at_, nn, til, sn, dt⟩ da dc) 36)).alloc (.cells (reC (noM 0) none none 0 0) 33) := ⟨_, rfl⟩
  rw [← hw2] at hd2 hb2
  have hm2 : w2.cell? ⟨0, 0, none⟩ = some (.int .i64 m) := (hb2.cell (p := ⟨0, 0, none⟩) (World.block_lt_of_cell? w _ hm)).trans hm
  have hpc := paths_any p w2 ⟨16, pa, to_, fd, at_, nn, til, sn, dt⟩ da dc hx m hm2
  rw [hps] at hpc
  have HPC : Hid (Calls Tryz.prog 36 #[ptr p, .agg (opC ⟨16, pa, to_, fd, at_, nn, til, sn, dt⟩ da dc)] ((w.alloc (.cells (opC ⟨16, pa, to_, fd, at_, nn, til, sn, dt⟩ da dc) 36)).alloc (.cells (reC (noM 0) none none 0 0) 33)) (PathsRet w2 ([], 0))) := by rw [← hw2]; exact Lib.hid hpc
  unfold opC reC noM at HPC
  dsimp only [List.length_nil] at HPC
  have HSD := Lib.hid hsd
  have HOK := Lib.hid hok
  have HX := Lib.hid hx
  have HDA := Lib.hid (hda.below hb2 (Nat.le_refl _))
  have HD2 := Lib.hid hd2
  have HK := Lib.hid hk
  clear hS hM hk hok hx hda hm hp hps hsd hd2 hb2 hm2 hpc hw2
  unfold opC
  go_enter Tryz.func14, Tryz.ntmps14
  go_wp2_with fail
  (with_reducible refine HPC.out.mono ?_)
  clear HPC
  intro e w3 hpr
  obtain ⟨a3, c3, rfl, hb3⟩ := hpr.zero
  clear hpr
  have HD := Lib.hid (HD2.out.grow hb3)
  have HB3 := Lib.hid hb3
  have HDA3 := Lib.hid (HDA.out.below hb3 (Nat.le_refl _))
  have g0 : w3.cell? ⟨w.heap.size, 0, none⟩ = some (.int .i64 16) := by simp [World.cell?, HD.out.op, opC]
  clear hb3 HD2 HDA
  have HDD := Lib.hid (HD.out.grow (Below.refl _ _).drew)
  have hMd := HDD.out.marks
  have hsd : sdoM M ⟨16, pa, to_, fd, at_, nn, til, sn, dt⟩ = (noM 0, { M with now := nextM M.now til }) := HSD.out
  replace HSD := Lib.hid hsd
  clear hsd
  obtain ⟨z2, z3, hcl⟩ := HDD.out.clock (nextM M.now til)
  have z2' : w3.cell? ⟨p, 2, none⟩ = some (.int .u64 M.now) := z2
  have z3' : w3.frozen? ⟨p, 2, none⟩ = false := z3
  have hHC := cnext_any M.now til w3.drew
  have HC := Lib.hid hHC
  clear hMd hHC z2 z3 hcl
  have g6 : w3.cell? ⟨w.heap.size, 6, none⟩ = some (.int .u64 til) := by simp [World.cell?, HD.out.op, opC]
  go_wp2_with fail
  refine wp_region_noPanic ?_
  refine wp_region_L (last := 10) (S := (fun w' => w'.cell? ⟨p, 2, none⟩ = some (.int .u64 M.now) ∧ w'.frozen? ⟨p, 2, none⟩ = false ∧ w'.cell? ⟨w.heap.size, 6, none⟩ = some (.int .u64 til))) (by kernel_rfl) ?_ (fun hS => ?_)
  · exact ⟨z2', z3', g6⟩
  refine wpAnyL_take (i := 0) (oi := ?oi37) (v := ?v37) ?hi37 (by kernel_rfl) (by kernel_rfl) (by kernel_rfl) (by kernel_rfl) (by kernel_rfl) ?hq37 (Or.inl ⟨?hw37, ?hy37⟩) hS ?rest37
  case hi37 => simp only [List.getElem?_toArray, List.getElem?_cons_succ, List.getElem?_cons_zero]; rfl
  case hq37 => exact fun _ _ _ h => h
  case hw37 => rfl
  case hy37 => intro w hSw; (try dsimp only at hSw); go_simp; (try with_reducible rfl)
  try simp only [Act.put, List.setIfInBounds_toArray, List.set_cons_zero, List.set_cons_succ]
  refine wpAnyL_take (i := 1) (oi := ?oi38) (v := ?v38) ?hi38 (by kernel_rfl) (by kernel_rfl) (by kernel_rfl) (by kernel_rfl) (by kernel_rfl) ?hq38 (Or.inl ⟨?hw38, ?hy38⟩) hS ?rest38
  case hi38 => simp only [List.getElem?_toArray, List.getElem?_cons_succ, List.getElem?_cons_zero]; rfl
  case hq38 => exact fun _ _ _ h => h
  case hw38 => rfl
  case hy38 => intro w hSw; (try dsimp only at hSw); go_simp; (try with_reducible rfl)
  try simp only [Act.put, List.setIfInBounds_toArray, List.set_cons_zero, List.set_cons_succ]
  refine wpAnyL_take (i := 2) (oi := ?oi39) (v := ?v39) ?hi39 (by kernel_rfl) (by kernel_rfl) (by kernel_rfl) (by kernel_rfl) (by kernel_rfl) ?hq39 (Or.inl ⟨?hw39, ?hy39⟩) hS ?rest39
  case hi39 => simp only [List.getElem?_toArray, List.getElem?_cons_succ, List.getElem?_cons_zero]; rfl
  case hq39 => exact fun _ _ _ h => h
  case hw39 => rfl
  case hy39 => intro w hSw; (try dsimp only at hSw); go_simp; (try with_reducible rfl)
  try simp only [Act.put, List.setIfInBounds_toArray, List.set_cons_zero, List.set_cons_succ]
  refine wpAnyL_take (i := 3) (oi := ?oi40) (v := ?v40) ?hi40 (by kernel_rfl) (by kernel_rfl) (by kernel_rfl) (by kernel_rfl) (by kernel_rfl) ?hq40 (Or.inl ⟨?hw40, ?hy40⟩) hS ?rest40
  case hi40 => simp only [List.getElem?_toArray, List.getElem?_cons_succ, List.getElem?_cons_zero]; rfl
  case hq40 => exact fun _ _ _ h => h
  case hw40 => rfl
  case hy40 => intro w hSw; (try dsimp only at hSw); go_simp; (try with_reducible rfl)
  try simp only [Act.put, List.setIfInBounds_toArray, List.set_cons_zero, List.set_cons_succ]
  refine wpAnyL_take (i := 4) (oi := ?oi41) (v := ?v41) ?hi41 (by kernel_rfl) (by kernel_rfl) (by kernel_rfl) (by kernel_rfl) (by kernel_rfl) ?hq41 (Or.inl ⟨?hw41, ?hy41⟩) hS ?rest41
  case hi41 => simp only [List.getElem?_toArray, List.getElem?_cons_succ, List.getElem?_cons_zero]; rfl
  case hq41 => exact fun _ _ _ h => h
  case hw41 => rfl
  case hy41 => intro w hSw; (try dsimp only at hSw); go_simp; (try with_reducible rfl)
  try simp only [Act.put, List.setIfInBounds_toArray, List.set_cons_zero, List.set_cons_succ]
  refine wpAnyL_take (i := 5) (oi := ?oi42) (v := ?v42) ?hi42 (by kernel_rfl) (by kernel_rfl) (by kernel_rfl) (by kernel_rfl) (by kernel_rfl) ?hq42 (Or.inl ⟨?hw42, ?hy42⟩) hS ?rest42
  case hi42 => simp only [List.getElem?_toArray, List.getElem?_cons_succ, List.getElem?_cons_zero]; rfl
  case hq42 => exact fun _ _ _ h => h
  case hw42 => rfl
  case hy42 => intro w hSw; (try dsimp only at hSw); go_simp; (try with_reducible rfl)
  try simp only [Act.put, List.setIfInBounds_toArray, List.set_cons_zero, List.set_cons_succ]
  refine wpAnyL_take (i := 6) (oi := ?oi43) (v := ?v43) ?hi43 (by kernel_rfl) (by kernel_rfl) (by kernel_rfl) (by kernel_rfl) (by kernel_rfl) ?hq43 (Or.inl ⟨?hw43, ?hy43⟩) hS ?rest43
  case hi43 => simp only [List.getElem?_toArray, List.getElem?_cons_succ, List.getElem?_cons_zero]; rfl
  case hq43 => exact fun _ _ _ h => h
  case hw43 => rfl
  case hy43 => intro w hSw; (try dsimp only at hSw); go_simp; (try with_reducible rfl)
  try simp only [Act.put, List.setIfInBounds_toArray, List.set_cons_zero, List.set_cons_succ]
  refine wpAnyL_ready (rs := [7]) (by kernel_rfl) (by simp) ?_
  refine AllReadyL.cons (o := ?o44) ?ho44 (fun K hK => ?_) AllReadyL.nil
  case ho44 => simp only [List.getElem?_toArray, List.getElem?_cons_succ, List.getElem?_cons_zero]; rfl
  go_simp
  (with_reducible refine HC.out.mono ?_)
  rintro e w4 ⟨rfl, hb4⟩
  have HDN := Lib.hid (HDD.out.grow hb4)
  obtain ⟨y2, y3, hcl⟩ := HDN.out.clock (nextM M.now til)
  have HCL := Lib.hid hcl
  have HS4 : Hid ((fun w' => w'.cell? ⟨p, 2, none⟩ = some (.int .u64 M.now) ∧ w'.frozen? ⟨p, 2, none⟩ = false ∧ w'.cell? ⟨w.heap.size, 6, none⟩ = some (.int .u64 til)) w4) := ⟨y2, y3, (hb4.cell (p := ⟨w.heap.size, 6, none⟩) HDD.out.opb.2).trans g6⟩
  clear hb4 HC hcl y2 y3
  go_wp2_with fail
  refine hK.out _ _ (fun _ => HS4.out) (fun hS => ?_)
  replace hS := hS (by decide)
  clear hK K
  try simp only [Act.put, List.setIfInBounds_toArray, List.set_cons_zero, List.set_cons_succ]
  refine wpAnyL_take (i := 8) (oi := ?oi45) (v := ?v45) ?hi45 (by kernel_rfl) (by kernel_rfl) (by kernel_rfl) (by kernel_rfl) (by kernel_rfl) ?hq45 (Or.inl ⟨?hw45, ?hy45⟩) hS ?rest45
  case hi45 => simp only [List.getElem?_toArray, List.getElem?_cons_succ, List.getElem?_cons_zero]; rfl
  case hq45 => exact fun _ _ _ h => h
  case hw45 => rfl
  case hy45 => intro w hSw; (try dsimp only at hSw); go_simp; (try with_reducible rfl)
  try simp only [Act.put, List.setIfInBounds_toArray, List.set_cons_zero, List.set_cons_succ]
  refine wpAnyL_take (i := 9) (oi := ?oi46) (v := ?v46) ?hi46 (by kernel_rfl) (by kernel_rfl) (by kernel_rfl) (by kernel_rfl) (by kernel_rfl) ?hq46 (Or.inl ⟨?hw46, ?hy46⟩) hS ?rest46
  case hi46 => simp only [List.getElem?_toArray, List.getElem?_cons_succ, List.getElem?_cons_zero]; rfl
  case hq46 => exact fun _ _ _ h => h
  case hw46 => rfl
  case hy46 => intro w hSw; (try dsimp only at hSw); go_simp; (try with_reducible rfl)
  try simp only [Act.put, List.setIfInBounds_toArray, List.set_cons_zero, List.set_cons_succ]
  refine wpAnyL_ready (rs := [10]) (by kernel_rfl) (by simp) ?_
  refine AllReadyL.cons (o := ?o47) ?ho47 (fun K hK => ?_) AllReadyL.nil
  case ho47 => simp only [List.getElem?_toArray, List.getElem?_cons_succ, List.getElem?_cons_zero]; rfl
  go_simp
  refine hK.out _ _ (fun h => absurd rfl h) (fun hS => ?_)
  clear hS hK K
  try simp only [Act.put, List.setIfInBounds_toArray, List.set_cons_zero, List.set_cons_succ]
  refine wpAnyL_done (by kernel_rfl) ?_ _
  refine NoPanic.normal ?_
  go_wp2_with (refine wpList_store_rep (by rfl) 33 _ _ (by rfl) (w.heap.size + 1) (reC (noM 0) none none 0 0) (by rfl) (by rfl) _ HCL.out.re repSize rfl (reC_one _ _ _ _ _) ?_; intro w5 hs5; have HS5 := Lib.hid hs5; clear hs5)
  exact ret_rep rfl rfl rfl HS5.out.1 (by rw [HSD.out]; exact HCL.out.fin0 HS5.out rfl rfl)
set_option maxRecDepth 100000 in
set_option maxHeartbeats 8000000 in
theorem sdo_k17 {S : Nat → Prop} (hS : StateO o i j k w p M) (hM : Marks W o w) (hk : Mk5 i j k l n) (cc : Int) (hok : StOk cc M) (hcc : cc ≤ 1000000000) (pa to_ : List UInt8) (fd at_ nn til sn : Int) (dt : List UInt8) (hx : OpOk ⟨17, pa, to_, fd, at_, nn, til, sn, dt⟩) (da : Option Addr) (dc : Nat) (hda : RowAt S w da dt.length (dt.map bv)) (m : Int) (hm : w.cell? ⟨0, 0, none⟩ = some (.int .i64 m)) (hp : (pathsO ⟨17, pa, to_, fd, at_, nn, til, sn, dt⟩).2 = 0) :
    Calls Tryz.prog 14 #[ptr p, .agg (opC ⟨17, pa, to_, fd, at_, nn, til, sn, dt⟩ da dc)] w (DoRet o i j k l n w p (sdoM M ⟨17, pa, to_, fd, at_, nn, til, sn, dt⟩)) := by
  have hps : pathsO ⟨17, pa, to_, fd, at_, nn, til, sn, dt⟩ = ([], 0) := rfl
  have hsd : sdoM M ⟨17, pa, to_, fd, at_, nn, til, sn, dt⟩ = sdoP M ⟨17, pa, to_, fd, at_, nn, til, sn, dt⟩ ([]) ([]) := by unfold sdoM; rw [hps]; rfl
  obtain ⟨o1, hd2⟩ := DoAt.start hk hS hM ⟨17, pa, to_, fd, at_, nn, til, sn, dt⟩ da dc
  have hb2 : Below w.heap.size w ((w.alloc (.cells (opC ⟨17, pa, to_, fd, at_, nn, til, sn, dt⟩ da dc) 36)).alloc (.cells (reC (noM 0) none none 0 0) 33)) := (wall w _).trans ((wall _ _).mono (by simp))
  obtain ⟨w2, hw2⟩ : ∃ w2, w2 = (w.alloc (.cells (opC ⟨17, pa, to_, fd, at_, nn, til, sn, dt⟩ da dc) 36)).alloc (.cells (reC (noM 0) none none 0 0) 33) := ⟨_, rfl⟩
  rw [← hw2] at hd2 hb2
  have hm2 : w2.cell? ⟨0, 0, none⟩ = some (.int .i64 m) := (hb2.cell (p := ⟨0, 0, none⟩) (World.block_lt_of_cell? w _ hm)).trans hm
  have hpc := paths_any p w2 ⟨17, pa, to_, fd, at_, nn, til, sn, dt⟩ da dc hx m hm2
  rw [hps] at hpc
  have HPC : Hid (Calls Tryz.prog 36 #[ptr p, .agg (opC ⟨17, pa, to_, fd, at_, nn, til, sn, dt⟩ da dc)] ((w.alloc (.cells (opC ⟨17, pa, to_, fd, at_, nn, til, sn, dt⟩ da dc) 36)).alloc (.cells (reC (noM 0) none none 0 0) 33)) (PathsRet w2 ([], 0))) := by rw [← hw2]; exact Lib.hid hpc
  unfold opC reC noM at HPC
  dsimp only [List.length_nil] at HPC
  have HSD := Lib.hid hsd
  have HOK := Lib.hid hok
  have HX := Lib.hid hx
  have HDA := Lib.hid (hda.below hb2 (Nat.le_refl _))
  have HD2 := Lib.hid hd2
  have HK := Lib.hid hk
  clear hS hM hk hok hx hda hm hp hps hsd hd2 hb2 hm2 hpc hw2
  unfold opC
  go_enter Tryz.func14, Tryz.ntmps14
  go_wp2_with fail
  (with_reducible refine HPC.out.mono ?_)
  clear HPC
  intro e w3 hpr
  obtain ⟨a3, c3, rfl, hb3⟩ := hpr.zero
  clear hpr
  have HD := Lib.hid (HD2.out.grow hb3)
  have HB3 := Lib.hid hb3
  have HDA3 := Lib.hid (HDA.out.below hb3 (Nat.le_refl _))
  have g0 : w3.cell? ⟨w.heap.size, 0, none⟩ = some (.int .i64 17) := by simp [World.cell?, HD.out.op, opC]
  clear hb3 HD2 HDA
  have hsd : sdoM M ⟨17, pa, to_, fd, at_, nn, til, sn, dt⟩ = (noM 0, M) := HSD.out
  replace HSD := Lib.hid hsd
  clear hsd
  go_wp2_with (refine wpList_store_rep (by rfl) 33 _ _ (by rfl) (w.heap.size + 1) (reC (noM 0) none none 0 0) (by rfl) (by rfl) _ HD.out.re repSize rfl (reC_one _ _ _ _ _) ?_; intro w5 hs5; have HS5 := Lib.hid hs5; clear hs5)
  exact ret_rep rfl rfl rfl HS5.out.1 (by rw [HSD.out]; exact HD.out.fin0 HS5.out rfl rfl)
end
end Go.Proofs.YtpgklnhkfgbpgaaGreatDoor
