/- package state: Do, kinds 13 14 15 16 17. package state: Do. package state: New. A law's own state: New, Do, Now. -/
import Derived.Test.YtmabllemjkcobaaGreatDoorM37
import Derived.Test.YtmabllemjkcobaaGreatDoorM38
import Derived.Test.YtmabllemjkcobaaGreatDoorM39
import Derived.Test.YtmabllemjkcobaaGreatDoorM30
import Derived.Test.YtmabllemjkcobaaGreatDoorM13
namespace Go.Proofs.YtmabllemjkcobaaGreatDoor
open Go.ChangeShapes Go.WideShapes Go.ChangeAt Go.RowKit
set_option linter.unusedVariables false
set_option linter.unusedSimpArgs false

section
variable {W w : World} {o : Mark} {i j k l n p : Nat} {M : StM}
set_option maxRecDepth 100000 in
set_option maxHeartbeats 8000000 in
theorem sdo_k13 {S : Nat → Prop} (hS : StateO o i j k w p M) (hM : Marks W o w) (hk : Mk5 i j k l n) (cc : Int) (hok : StOk cc M) (hcc : cc ≤ 1000000000) (pa to_ : List UInt8) (fd at_ nn til sn : Int) (dt : List UInt8) (hx : OpOk ⟨13, pa, to_, fd, at_, nn, til, sn, dt⟩) (da : Option Addr) (dc : Nat) (hda : RowAt S w da dt.length (dt.map bv)) (m : Int) (hm : w.cell? ⟨0, 0, none⟩ = some (.int .i64 m)) (hp : (pathsO ⟨13, pa, to_, fd, at_, nn, til, sn, dt⟩).2 = 0) :
    Calls Tryz.prog 12 #[ptr p, .agg (opC ⟨13, pa, to_, fd, at_, nn, til, sn, dt⟩ da dc)] w (DoRet o i j k l n w p (sdoM M ⟨13, pa, to_, fd, at_, nn, til, sn, dt⟩)) := by
  obtain ⟨hps0, hf0⟩ := splits_one (a := pa) hp
  have hps : pathsO ⟨13, pa, to_, fd, at_, nn, til, sn, dt⟩ = ([(pathSplit pa).1], 0) := hps0
  have hsd : sdoM M ⟨13, pa, to_, fd, at_, nn, til, sn, dt⟩ = sdoP M ⟨13, pa, to_, fd, at_, nn, til, sn, dt⟩ ((pathSplit pa).1) ([]) := by unfold sdoM; rw [hps]; rfl
  have h80 := split_few hf0
  obtain ⟨q0, hq0⟩ : ∃ q0, q0 = (pathSplit pa).1 := ⟨_, rfl⟩
  rw [← hq0] at hps hsd h80
  obtain ⟨o1, hd2⟩ := DoAt.start hk hS hM ⟨13, pa, to_, fd, at_, nn, til, sn, dt⟩ da dc
  have hb2 : Below w.heap.size w ((w.alloc (.cells (opC ⟨13, pa, to_, fd, at_, nn, til, sn, dt⟩ da dc) 28)).alloc (.cells (reC (noM 0) none none 0 0) 36)) := (wall w _).trans ((wall _ _).mono (by simp))
  obtain ⟨w2, hw2⟩ : ∃ w2, w2 = (w.alloc (.cells (opC ⟨13, pa, to_, fd, at_, nn, til, sn, dt⟩ da dc) 28)).alloc (.cells (reC (noM 0) none none 0 0) 36) := ⟨_, rfl⟩
  rw [← hw2] at hd2 hb2
  have hm2 : w2.cell? ⟨0, 0, none⟩ = some (.int .i64 m) := (hb2.cell (p := ⟨0, 0, none⟩) (World.block_lt_of_cell? w _ hm)).trans hm
  have hpc := paths_any p w2 ⟨13, pa, to_, fd, at_, nn, til, sn, dt⟩ da dc hx m hm2
  rw [hps] at hpc
  have HPC : Hid (Calls Tryz.prog 36 #[ptr p, .agg (opC ⟨13, pa, to_, fd, at_, nn, til, sn, dt⟩ da dc)] ((w.alloc (.cells (opC ⟨13, pa, to_, fd, at_, nn, til, sn, dt⟩ da dc) 28)).alloc (.cells (reC (noM 0) none none 0 0) 36)) (PathsRet w2 ([q0], 0))) := by rw [← hw2]; exact Lib.hid hpc
  unfold opC reC noM at HPC
  dsimp only [List.length_nil] at HPC
  have HSD := Lib.hid hsd
  have HOK := Lib.hid hok
  have HX := Lib.hid hx
  have HDA := Lib.hid (hda.below hb2 (Nat.le_refl _))
  have HD2 := Lib.hid hd2
  have HK := Lib.hid hk
  clear hS hM hk hok hx hda hm hp hps hsd hd2 hb2 hm2 hpc hw2 hps0 hf0 hq0
  unfold opC
  go_enter Tryz.func12, Tryz.ntmps12
  go_wp2_with fail
  (with_reducible refine HPC.out.mono ?_)
  clear HPC
  intro e w3 hpr
  obtain ⟨b, off, c3, a0, c0, rfl, hb0, hbw, hn0, hb3⟩ := hpr.one
  clear hpr
  have HD := Lib.hid (HD2.out.grow hb3)
  have HB3 := Lib.hid hb3
  have HBF : Hid (o1 b = 0 ∧ b < w3.heap.size) := ⟨Decidable.byContradiction fun h0 => by have := (HD2.out.marks.new b h0).2; omega, hbw⟩
  have hc0 := hn0.cell
  have HN0 := Lib.hid hn0
  clear hn0
  have HDA3 := Lib.hid (HDA.out.below hb3 (Nat.le_refl _))
  have g0 : w3.cell? ⟨w.heap.size, 0, none⟩ = some (.int .i64 13) := by simp [World.cell?, HD.out.op, opC]
  clear hb3 HD2 HDA
  have HDD := Lib.hid (HD.out.grow (Below.refl _ _).drew)
  have hMd := HDD.out.marks
  have HST0 := Lib.hid (HN0.out.strs.below (Below.refl _ _).drew (Nat.le_refl _))
  have hsd : sdoM M ⟨13, pa, to_, fd, at_, nn, til, sn, dt⟩ = ofEr (skeepM M q0 til) := HSD.out
  replace HSD := Lib.hid hsd
  clear hsd
  have HC := Lib.hid (skeep_any HDD.out.st hMd HK.out.mm HOK.out.t.1 a0 q0.length c0 q0 HST0.out HN0.out.cap (by omega) (look_wf HOK.out.t.1 q0) til HX.out.wt (nodeAt_wf HOK.out.t.1 q0))
  obtain ⟨rr, hrr⟩ : ∃ rr, rr = skeepM M q0 til := ⟨_, rfl⟩
  rw [← hrr] at HC HSD
  unfold ofEr at HSD
  clear hrr hMd
  have g6 : w3.cell? ⟨w.heap.size, 6, none⟩ = some (.int .u64 til) := by simp [World.cell?, HD.out.op, opC]
  go_wp2_with fail
  refine wp_region_noPanic ?_
  refine wp_region_L (last := 8) (S := (fun w' => w'.cell? ⟨b, off, none⟩ = some (.slice a0 q0.length c0) ∧ w'.cell? ⟨w.heap.size, 6, none⟩ = some (.int .u64 til))) (by kernel_rfl) ?_ (fun hS => ?_)
  · exact ⟨hc0, g6⟩
  refine tkL 0 (hS := hS) (h := ?_)
  refine tkL 1 (hS := hS) (h := ?_)
  refine tkL 2 (hS := hS) (h := ?_)
  refine tkL 3 (hS := hS) (h := ?_)
  refine tkL 4 (hS := hS) (h := ?_)
  refine tkL 5 (hS := hS) (h := ?_)
  refine rdL 6 (h := fun K hK => ?_)
  go_simp
  (with_reducible refine HC.out.mono ?_)
  rintro e w4 ⟨rfl, o4, hs4, hS4⟩
  have HD4 := Lib.hid (HDD.out.turn hs4 hS4)
  have hb4 : w4.heap[b]? = w3.heap[b]? := HDD.out.stays hs4 HBF.out
  have ho4 : w4.heap[w.heap.size]? = w3.heap[w.heap.size]? := HDD.out.stays hs4 HDD.out.opb
  clear hs4 hS4 HC
  have HS4 : Hid ((fun w' => w'.cell? ⟨b, off, none⟩ = some (.slice a0 q0.length c0) ∧ w'.cell? ⟨w.heap.size, 6, none⟩ = some (.int .u64 til)) w4) := ⟨(World.cell?_of_block hb4).trans hc0, (World.cell?_of_block ho4).trans g6⟩
  clear hb4 ho4
  go_wp2_with fail
  refine hK.out _ _ (fun _ => HS4.out) (fun hS => ?_)
  replace hS := hS (by decide)
  clear hK K
  try simp only [Act.put, List.setIfInBounds_toArray, List.set_cons_zero, List.set_cons_succ]
  refine rdL 7 (h := fun K hK => ?_)
  go_simp
  (with_reducible refine (no_any _ _).mono ?_)
  rintro e w9 ⟨rfl, hb9⟩
  unfold noV
  have HD9 := Lib.hid (HD4.out.grow hb9)
  have HS9 : Hid ((fun w' => w'.cell? ⟨b, off, none⟩ = some (.slice a0 q0.length c0) ∧ w'.cell? ⟨w.heap.size, 6, none⟩ = some (.int .u64 til)) w9) := ⟨(hb9.cell (World.block_lt_of_cell? w4 _ HS4.out.1)).trans HS4.out.1, (hb9.cell (World.block_lt_of_cell? w4 _ HS4.out.2)).trans HS4.out.2⟩
  clear hb9
  go_wp2_with fail
  refine hK.out _ _ (fun _ => HS9.out) (fun hS => ?_)
  replace hS := hS (by decide)
  clear hK K
  try simp only [Act.put, List.setIfInBounds_toArray, List.set_cons_zero, List.set_cons_succ]
  refine wpAnyL_ready (rs := [8]) (by kernel_rfl) (by simp) ?_
  refine AllReadyL.cons (o := ?o1) ?ho1 (fun K hK => ?_) AllReadyL.nil
  case ho1 => simp only [List.getElem?_toArray, List.getElem?_cons_succ, List.getElem?_cons_zero]; rfl
  refine step_store_rep rfl 36 _ _ rfl (w.heap.size + 1) (reC (noM (rr.1)) none none 0 0) rfl rfl _ HD9.out.re repSize rfl (reC_one _ _ _ _ _) ?_
  intro w5 hs5
  have HS5 := Lib.hid hs5
  clear hs5
  refine hK.out _ _ (fun h => absurd rfl h) (fun hS => ?_)
  clear hS hK K
  try simp only [Act.put, List.setIfInBounds_toArray, List.set_cons_zero, List.set_cons_succ]
  refine wpAnyL_done (by kernel_rfl) ?_ _
  refine NoPanic.normal ?_
  go_wp2_with fail
  exact ret_rep rfl rfl rfl HS5.out.1 (by rw [HSD.out]; exact HD9.out.fin0 HS5.out rfl rfl)
set_option maxRecDepth 100000 in
set_option maxHeartbeats 8000000 in
theorem sdo_k14 {S : Nat → Prop} (hS : StateO o i j k w p M) (hM : Marks W o w) (hk : Mk5 i j k l n) (cc : Int) (hok : StOk cc M) (hcc : cc ≤ 1000000000) (pa to_ : List UInt8) (fd at_ nn til sn : Int) (dt : List UInt8) (hx : OpOk ⟨14, pa, to_, fd, at_, nn, til, sn, dt⟩) (da : Option Addr) (dc : Nat) (hda : RowAt S w da dt.length (dt.map bv)) (m : Int) (hm : w.cell? ⟨0, 0, none⟩ = some (.int .i64 m)) (hp : (pathsO ⟨14, pa, to_, fd, at_, nn, til, sn, dt⟩).2 = 0) :
    Calls Tryz.prog 12 #[ptr p, .agg (opC ⟨14, pa, to_, fd, at_, nn, til, sn, dt⟩ da dc)] w (DoRet o i j k l n w p (sdoM M ⟨14, pa, to_, fd, at_, nn, til, sn, dt⟩)) := by
  have hps : pathsO ⟨14, pa, to_, fd, at_, nn, til, sn, dt⟩ = ([], 0) := rfl
  have hsd : sdoM M ⟨14, pa, to_, fd, at_, nn, til, sn, dt⟩ = sdoP M ⟨14, pa, to_, fd, at_, nn, til, sn, dt⟩ ([]) ([]) := by unfold sdoM; rw [hps]; rfl
  obtain ⟨o1, hd2⟩ := DoAt.start hk hS hM ⟨14, pa, to_, fd, at_, nn, til, sn, dt⟩ da dc
  have hb2 : Below w.heap.size w ((w.alloc (.cells (opC ⟨14, pa, to_, fd, at_, nn, til, sn, dt⟩ da dc) 28)).alloc (.cells (reC (noM 0) none none 0 0) 36)) := (wall w _).trans ((wall _ _).mono (by simp))
  obtain ⟨w2, hw2⟩ : ∃ w2, w2 = (w.alloc (.cells (opC ⟨14, pa, to_, fd, at_, nn, til, sn, dt⟩ da dc) 28)).alloc (.cells (reC (noM 0) none none 0 0) 36) := ⟨_, rfl⟩
  rw [← hw2] at hd2 hb2
  have hm2 : w2.cell? ⟨0, 0, none⟩ = some (.int .i64 m) := (hb2.cell (p := ⟨0, 0, none⟩) (World.block_lt_of_cell? w _ hm)).trans hm
  have hpc := paths_any p w2 ⟨14, pa, to_, fd, at_, nn, til, sn, dt⟩ da dc hx m hm2
  rw [hps] at hpc
  have HPC : Hid (Calls Tryz.prog 36 #[ptr p, .agg (opC ⟨14, pa, to_, fd, at_, nn, til, sn, dt⟩ da dc)] ((w.alloc (.cells (opC ⟨14, pa, to_, fd, at_, nn, til, sn, dt⟩ da dc) 28)).alloc (.cells (reC (noM 0) none none 0 0) 36)) (PathsRet w2 ([], 0))) := by rw [← hw2]; exact Lib.hid hpc
  unfold opC reC noM at HPC
  dsimp only [List.length_nil] at HPC
  have HSD := Lib.hid hsd
  have HOK := Lib.hid hok
  have HX := Lib.hid hx
  have HDA := Lib.hid (hda.below hb2 (Nat.le_refl _))
  have HD2 := Lib.hid hd2
  have HK := Lib.hid hk
  clear hS hM hk hok hx hda hm hp hps hsd hd2 hb2 hm2 hpc hw2
  unfold opC
  go_enter Tryz.func12, Tryz.ntmps12
  go_wp2_with fail
  (with_reducible refine HPC.out.mono ?_)
  clear HPC
  intro e w3 hpr
  obtain ⟨a3, c3, rfl, hb3⟩ := hpr.zero
  clear hpr
  have HD := Lib.hid (HD2.out.grow hb3)
  have HB3 := Lib.hid hb3
  have HDA3 := Lib.hid (HDA.out.below hb3 (Nat.le_refl _))
  have g0 : w3.cell? ⟨w.heap.size, 0, none⟩ = some (.int .i64 14) := by simp [World.cell?, HD.out.op, opC]
  clear hb3 HD2 HDA
  have HDD := Lib.hid (HD.out.grow (Below.refl _ _).drew)
  have hMd := HDD.out.marks
  obtain ⟨t, s, z0, z1, z2, hT3, hS3, hsr⟩ := HDD.out.callS
  have z0' : w3.cell? ⟨p, 0, none⟩ = some (ptr t) := z0
  have z1' : w3.cell? ⟨p, 1, none⟩ = some (ptr s) := z1
  have z2' : w3.cell? ⟨p, 2, none⟩ = some (.int .u64 M.now) := z2
  have HSR := Lib.hid hsr
  have hsd : sdoM M ⟨14, pa, to_, fd, at_, nn, til, sn, dt⟩ = (⟨(takeM M.s M.t).1.2, (takeM M.s M.t).1.1, [], [], none⟩, M.sn (takeM M.s M.t).2) := HSD.out
  replace HSD := Lib.hid hsd
  clear hsd
  have HC := Lib.hid (take_any hS3 hT3 hMd HK.out.mm.ne.1 HOK.out.t.1 HOK.out.s.few HOK.out.s.last HOK.out.next.1 (by have := HOK.out.next.2; omega))
  obtain ⟨rr, hrr⟩ : ∃ rr, rr = takeM M.s M.t := ⟨_, rfl⟩
  rw [← hrr] at HC HSD
  clear hrr hsr hT3 hS3 hMd z0 z1 z2
  go_wp2_with fail
  refine wp_region_noPanic ?_
  refine wp_region_held_drew (S := (fun w' => w'.cell? ⟨p, 0, none⟩ = some (ptr t) ∧ w'.cell? ⟨p, 1, none⟩ = some (ptr s))) (by kernel_rfl) ?_ (fun hS => ?_)
  · exact ⟨z0', z1'⟩
  refine tkH 0 (hS := hS) (h := ?_)
  refine tkH 1 (hS := hS) (h := ?_)
  refine tkH 2 (hS := hS) (h := ?_)
  refine tkH 3 (hS := hS) (h := ?_)
  refine tkH 4 (hS := hS) (h := ?_)
  refine tkH 5 (hS := hS) (h := ?_)
  refine tkH 6 (hS := hS) (h := ?_)
  refine tkH 7 (hS := hS) (h := ?_)
  refine rdH 8 (h := fun K hK => ?_)
  go_simp
  (with_reducible refine HC.out.mono ?_)
  rintro e w4 ⟨rfl, o4, hs4, hS4⟩
  obtain ⟨hd4, hp4⟩ := HSR.out _ _ _ hs4 hS4
  have HD4 := Lib.hid hd4
  have hp4' : w4.heap[p]? = w3.heap[p]? := hp4
  clear hd4 hs4 hS4 hp4 HC
  have HS4 : Hid ((fun w' => w'.cell? ⟨p, 0, none⟩ = some (ptr t) ∧ w'.cell? ⟨p, 1, none⟩ = some (ptr s)) w4) := ⟨(World.cell?_of_block hp4').trans z0', (World.cell?_of_block hp4').trans z1'⟩
  clear hp4'
  go_wp2_with fail
  refine hK.out _ _ (HS4.out) (fun hS => ?_)
  clear hK K
  try simp only [Act.put, List.setIfInBounds_toArray, List.set_cons_zero, List.set_cons_succ]
  refine tkH 9 (hS := hS) (h := ?_)
  refine tkH 10 (hS := hS) (h := ?_)
  refine tkH 11 (hS := hS) (h := ?_)
  refine tkH 12 (hS := hS) (h := ?_)
  refine tkH 13 (hS := hS) (h := ?_)
  refine wpAnyH_done (by kernel_rfl) ?_ _
  refine NoPanic.normal ?_
  go_wp2_with (refine wpList_store_rep (by rfl) 36 _ _ (by rfl) (w.heap.size + 1) (reC ⟨rr.1.2, rr.1.1, [], [], none⟩ none none 0 0) (by rfl) (by rfl) _ HD4.out.re repSize rfl (reC_one _ _ _ _ _) ?_; intro w5 hs5; have HS5 := Lib.hid hs5; clear hs5)
  exact ret_rep rfl rfl rfl HS5.out.1 (by rw [HSD.out]; exact HD4.out.fin0 HS5.out rfl rfl)
set_option maxRecDepth 100000 in
set_option maxHeartbeats 8000000 in
theorem sdo_k15 {S : Nat → Prop} (hS : StateO o i j k w p M) (hM : Marks W o w) (hk : Mk5 i j k l n) (cc : Int) (hok : StOk cc M) (hcc : cc ≤ 1000000000) (pa to_ : List UInt8) (fd at_ nn til sn : Int) (dt : List UInt8) (hx : OpOk ⟨15, pa, to_, fd, at_, nn, til, sn, dt⟩) (da : Option Addr) (dc : Nat) (hda : RowAt S w da dt.length (dt.map bv)) (m : Int) (hm : w.cell? ⟨0, 0, none⟩ = some (.int .i64 m)) (hp : (pathsO ⟨15, pa, to_, fd, at_, nn, til, sn, dt⟩).2 = 0) :
    Calls Tryz.prog 12 #[ptr p, .agg (opC ⟨15, pa, to_, fd, at_, nn, til, sn, dt⟩ da dc)] w (DoRet o i j k l n w p (sdoM M ⟨15, pa, to_, fd, at_, nn, til, sn, dt⟩)) := by
  have hps : pathsO ⟨15, pa, to_, fd, at_, nn, til, sn, dt⟩ = ([], 0) := rfl
  have hsd : sdoM M ⟨15, pa, to_, fd, at_, nn, til, sn, dt⟩ = sdoP M ⟨15, pa, to_, fd, at_, nn, til, sn, dt⟩ ([]) ([]) := by unfold sdoM; rw [hps]; rfl
  obtain ⟨o1, hd2⟩ := DoAt.start hk hS hM ⟨15, pa, to_, fd, at_, nn, til, sn, dt⟩ da dc
  have hb2 : Below w.heap.size w ((w.alloc (.cells (opC ⟨15, pa, to_, fd, at_, nn, til, sn, dt⟩ da dc) 28)).alloc (.cells (reC (noM 0) none none 0 0) 36)) := (wall w _).trans ((wall _ _).mono (by simp))
  obtain ⟨w2, hw2⟩ : ∃ w2, w2 = (w.alloc (.cells (opC ⟨15, pa, to_, fd, at_, nn, til, sn, dt⟩ da dc) 28)).alloc (.cells (reC (noM 0) none none 0 0) 36) := ⟨_, rfl⟩
  rw [← hw2] at hd2 hb2
  have hm2 : w2.cell? ⟨0, 0, none⟩ = some (.int .i64 m) := (hb2.cell (p := ⟨0, 0, none⟩) (World.block_lt_of_cell? w _ hm)).trans hm
  have hpc := paths_any p w2 ⟨15, pa, to_, fd, at_, nn, til, sn, dt⟩ da dc hx m hm2
  rw [hps] at hpc
  have HPC : Hid (Calls Tryz.prog 36 #[ptr p, .agg (opC ⟨15, pa, to_, fd, at_, nn, til, sn, dt⟩ da dc)] ((w.alloc (.cells (opC ⟨15, pa, to_, fd, at_, nn, til, sn, dt⟩ da dc) 28)).alloc (.cells (reC (noM 0) none none 0 0) 36)) (PathsRet w2 ([], 0))) := by rw [← hw2]; exact Lib.hid hpc
  unfold opC reC noM at HPC
  dsimp only [List.length_nil] at HPC
  have HSD := Lib.hid hsd
  have HOK := Lib.hid hok
  have HX := Lib.hid hx
  have HDA := Lib.hid (hda.below hb2 (Nat.le_refl _))
  have HD2 := Lib.hid hd2
  have HK := Lib.hid hk
  clear hS hM hk hok hx hda hm hp hps hsd hd2 hb2 hm2 hpc hw2
  unfold opC
  go_enter Tryz.func12, Tryz.ntmps12
  go_wp2_with fail
  (with_reducible refine HPC.out.mono ?_)
  clear HPC
  intro e w3 hpr
  obtain ⟨a3, c3, rfl, hb3⟩ := hpr.zero
  clear hpr
  have HD := Lib.hid (HD2.out.grow hb3)
  have HB3 := Lib.hid hb3
  have HDA3 := Lib.hid (HDA.out.below hb3 (Nat.le_refl _))
  have g0 : w3.cell? ⟨w.heap.size, 0, none⟩ = some (.int .i64 15) := by simp [World.cell?, HD.out.op, opC]
  clear hb3 HD2 HDA
  have HDD := Lib.hid (HD.out.grow (Below.refl _ _).drew)
  have hMd := HDD.out.marks
  obtain ⟨t, s, z0, z1, z2, hT3, hS3, hsr⟩ := HDD.out.callS
  have z0' : w3.cell? ⟨p, 0, none⟩ = some (ptr t) := z0
  have z1' : w3.cell? ⟨p, 1, none⟩ = some (ptr s) := z1
  have z2' : w3.cell? ⟨p, 2, none⟩ = some (.int .u64 M.now) := z2
  have HSR := Lib.hid hsr
  have hsd : sdoM M ⟨15, pa, to_, fd, at_, nn, til, sn, dt⟩ = (noM (sforgetM M.s sn M.now).1, M.sn (sforgetM M.s sn M.now).2) := HSD.out
  replace HSD := Lib.hid hsd
  clear hsd
  have HC := Lib.hid (forget_any hS3 hMd HK.out.mm.ne.1 HOK.out.s.few sn M.now)
  clear hsr hT3 hS3 hMd z0 z1 z2
  have g7 : w3.cell? ⟨w.heap.size, 7, none⟩ = some (.int .i64 sn) := by simp [World.cell?, HD.out.op, opC]
  go_wp2_with fail
  refine wp_region_noPanic ?_
  refine wp_region_L (last := 12) (S := (fun w' => w'.cell? ⟨p, 1, none⟩ = some (ptr s) ∧ w'.cell? ⟨p, 2, none⟩ = some (.int .u64 M.now) ∧ w'.cell? ⟨w.heap.size, 7, none⟩ = some (.int .i64 sn))) (by kernel_rfl) ?_ (fun hS => ?_)
  · exact ⟨z1', z2', g7⟩
  refine tkL 0 (hS := hS) (h := ?_)
  refine tkL 1 (hS := hS) (h := ?_)
  refine tkL 2 (hS := hS) (h := ?_)
  refine tkL 3 (hS := hS) (h := ?_)
  refine tkL 4 (hS := hS) (h := ?_)
  refine tkL 5 (hS := hS) (h := ?_)
  refine tkL 6 (hS := hS) (h := ?_)
  refine tkL 7 (hS := hS) (h := ?_)
  refine tkL 8 (hS := hS) (h := ?_)
  refine tkL 9 (hS := hS) (h := ?_)
  refine rdL 10 (h := fun K hK => ?_)
  go_simp
  (with_reducible refine HC.out.mono ?_)
  rintro e w4 ⟨er, S4, o4, rfl, hfr, hs4, hS4⟩
  have hfe := hfr.eq
  obtain ⟨hd4, hp4⟩ := HSR.out _ _ _ hs4 hS4
  have HD4 := Lib.hid hd4
  have hp4' : w4.heap[p]? = w3.heap[p]? := hp4
  have ho4 : w4.heap[w.heap.size]? = w3.heap[w.heap.size]? := HDD.out.stays (hs4.mono fun m hm => .inl hm) HDD.out.opb
  rw [hfe] at HSD
  clear hd4 hs4 hS4 hp4 HC hfr hfe
  have HS4 : Hid ((fun w' => w'.cell? ⟨p, 1, none⟩ = some (ptr s) ∧ w'.cell? ⟨p, 2, none⟩ = some (.int .u64 M.now) ∧ w'.cell? ⟨w.heap.size, 7, none⟩ = some (.int .i64 sn)) w4) := ⟨(World.cell?_of_block hp4').trans z1', (World.cell?_of_block hp4').trans z2', (World.cell?_of_block ho4).trans g7⟩
  clear hp4' ho4
  go_wp2_with fail
  refine hK.out _ _ (fun _ => HS4.out) (fun hS => ?_)
  replace hS := hS (by decide)
  clear hK K
  try simp only [Act.put, List.setIfInBounds_toArray, List.set_cons_zero, List.set_cons_succ]
  refine rdL 11 (h := fun K hK => ?_)
  go_simp
  (with_reducible refine (no_any _ _).mono ?_)
  rintro e w9 ⟨rfl, hb9⟩
  unfold noV
  have HD9 := Lib.hid (HD4.out.grow hb9)
  have HS9 : Hid ((fun w' => w'.cell? ⟨p, 1, none⟩ = some (ptr s) ∧ w'.cell? ⟨p, 2, none⟩ = some (.int .u64 M.now) ∧ w'.cell? ⟨w.heap.size, 7, none⟩ = some (.int .i64 sn)) w9) := ⟨(hb9.cell (World.block_lt_of_cell? w4 _ HS4.out.1)).trans HS4.out.1, (hb9.cell (World.block_lt_of_cell? w4 _ HS4.out.2.1)).trans HS4.out.2.1, (hb9.cell (World.block_lt_of_cell? w4 _ HS4.out.2.2)).trans HS4.out.2.2⟩
  clear hb9
  go_wp2_with fail
  refine hK.out _ _ (fun _ => HS9.out) (fun hS => ?_)
  replace hS := hS (by decide)
  clear hK K
  try simp only [Act.put, List.setIfInBounds_toArray, List.set_cons_zero, List.set_cons_succ]
  refine wpAnyL_ready (rs := [12]) (by kernel_rfl) (by simp) ?_
  refine AllReadyL.cons (o := ?o2) ?ho2 (fun K hK => ?_) AllReadyL.nil
  case ho2 => simp only [List.getElem?_toArray, List.getElem?_cons_succ, List.getElem?_cons_zero]; rfl
  refine step_store_rep rfl 36 _ _ rfl (w.heap.size + 1) (reC (noM er) none none 0 0) rfl rfl _ HD9.out.re repSize rfl (reC_one _ _ _ _ _) ?_
  intro w5 hs5
  have HS5 := Lib.hid hs5
  clear hs5
  refine hK.out _ _ (fun h => absurd rfl h) (fun hS => ?_)
  clear hS hK K
  try simp only [Act.put, List.setIfInBounds_toArray, List.set_cons_zero, List.set_cons_succ]
  refine wpAnyL_done (by kernel_rfl) ?_ _
  refine NoPanic.normal ?_
  go_wp2_with fail
  exact ret_rep rfl rfl rfl HS5.out.1 (by rw [HSD.out]; exact HD9.out.fin0 HS5.out rfl rfl)
set_option maxRecDepth 100000 in
set_option maxHeartbeats 8000000 in
theorem sdo_k16 {S : Nat → Prop} (hS : StateO o i j k w p M) (hM : Marks W o w) (hk : Mk5 i j k l n) (cc : Int) (hok : StOk cc M) (hcc : cc ≤ 1000000000) (pa to_ : List UInt8) (fd at_ nn til sn : Int) (dt : List UInt8) (hx : OpOk ⟨16, pa, to_, fd, at_, nn, til, sn, dt⟩) (da : Option Addr) (dc : Nat) (hda : RowAt S w da dt.length (dt.map bv)) (m : Int) (hm : w.cell? ⟨0, 0, none⟩ = some (.int .i64 m)) (hp : (pathsO ⟨16, pa, to_, fd, at_, nn, til, sn, dt⟩).2 = 0) :
    Calls Tryz.prog 12 #[ptr p, .agg (opC ⟨16, pa, to_, fd, at_, nn, til, sn, dt⟩ da dc)] w (DoRet o i j k l n w p (sdoM M ⟨16, pa, to_, fd, at_, nn, til, sn, dt⟩)) := by
  have hps : pathsO ⟨16, pa, to_, fd, at_, nn, til, sn, dt⟩ = ([], 0) := rfl
  have hsd : sdoM M ⟨16, pa, to_, fd, at_, nn, til, sn, dt⟩ = sdoP M ⟨16, pa, to_, fd, at_, nn, til, sn, dt⟩ ([]) ([]) := by unfold sdoM; rw [hps]; rfl
  obtain ⟨o1, hd2⟩ := DoAt.start hk hS hM ⟨16, pa, to_, fd, at_, nn, til, sn, dt⟩ da dc
  have hb2 : Below w.heap.size w ((w.alloc (.cells (opC ⟨16, pa, to_, fd, at_, nn, til, sn, dt⟩ da dc) 28)).alloc (.cells (reC (noM 0) none none 0 0) 36)) := (wall w _).trans ((wall _ _).mono (by simp))
  obtain ⟨w2, hw2⟩ : ∃ w2, w2 = (w.alloc (.cells (opC ⟨16, pa, to_, fd, at_, nn, til, sn, dt⟩ da dc) 28)).alloc (.cells (reC (noM 0) none none 0 0) 36) := ⟨_, rfl⟩
  rw [← hw2] at hd2 hb2
  have hm2 : w2.cell? ⟨0, 0, none⟩ = some (.int .i64 m) := (hb2.cell (p := ⟨0, 0, none⟩) (World.block_lt_of_cell? w _ hm)).trans hm
  have hpc := paths_any p w2 ⟨16, pa, to_, fd, at_, nn, til, sn, dt⟩ da dc hx m hm2
  rw [hps] at hpc
  have HPC : Hid (Calls Tryz.prog 36 #[ptr p, .agg (opC ⟨16, pa, to_, fd, at_, nn, til, sn, dt⟩ da dc)] ((w.alloc (.cells (opC ⟨16, pa, to_, fd, at_, nn, til, sn, dt⟩ da dc) 28)).alloc (.cells (reC (noM 0) none none 0 0) 36)) (PathsRet w2 ([], 0))) := by rw [← hw2]; exact Lib.hid hpc
  unfold opC reC noM at HPC
  dsimp only [List.length_nil] at HPC
  have HSD := Lib.hid hsd
  have HOK := Lib.hid hok
  have HX := Lib.hid hx
  have HDA := Lib.hid (hda.below hb2 (Nat.le_refl _))
  have HD2 := Lib.hid hd2
  have HK := Lib.hid hk
  clear hS hM hk hok hx hda hm hp hps hsd hd2 hb2 hm2 hpc hw2
  unfold opC
  go_enter Tryz.func12, Tryz.ntmps12
  go_wp2_with fail
  (with_reducible refine HPC.out.mono ?_)
  clear HPC
  intro e w3 hpr
  obtain ⟨a3, c3, rfl, hb3⟩ := hpr.zero
  clear hpr
  have HD := Lib.hid (HD2.out.grow hb3)
  have HB3 := Lib.hid hb3
  have HDA3 := Lib.hid (HDA.out.below hb3 (Nat.le_refl _))
  have g0 : w3.cell? ⟨w.heap.size, 0, none⟩ = some (.int .i64 16) := by simp [World.cell?, HD.out.op, opC]
  clear hb3 HD2 HDA
  have HDD := Lib.hid (HD.out.grow (Below.refl _ _).drew)
  have hMd := HDD.out.marks
  have hsd : sdoM M ⟨16, pa, to_, fd, at_, nn, til, sn, dt⟩ = (noM 0, { M with now := nextM M.now til }) := HSD.out
  replace HSD := Lib.hid hsd
  clear hsd
  obtain ⟨z2, z3, hcl⟩ := HDD.out.clock (nextM M.now til)
  have z2' : w3.cell? ⟨p, 2, none⟩ = some (.int .u64 M.now) := z2
  have z3' : w3.frozen? ⟨p, 2, none⟩ = false := z3
  have hHC := cnext_any M.now til w3.drew
  have HC := Lib.hid hHC
  clear hMd hHC z2 z3 hcl
  have g6 : w3.cell? ⟨w.heap.size, 6, none⟩ = some (.int .u64 til) := by simp [World.cell?, HD.out.op, opC]
  go_wp2_with fail
  refine wp_region_noPanic ?_
  refine wp_region_L (last := 10) (S := (fun w' => w'.cell? ⟨p, 2, none⟩ = some (.int .u64 M.now) ∧ w'.frozen? ⟨p, 2, none⟩ = false ∧ w'.cell? ⟨w.heap.size, 6, none⟩ = some (.int .u64 til))) (by kernel_rfl) ?_ (fun hS => ?_)
  · exact ⟨z2', z3', g6⟩
  refine tkL 0 (hS := hS) (h := ?_)
  refine tkL 1 (hS := hS) (h := ?_)
  refine tkL 2 (hS := hS) (h := ?_)
  refine tkL 3 (hS := hS) (h := ?_)
  refine tkL 4 (hS := hS) (h := ?_)
  refine tkL 5 (hS := hS) (h := ?_)
  refine tkL 6 (hS := hS) (h := ?_)
  refine rdL 7 (h := fun K hK => ?_)
  go_simp
  (with_reducible refine HC.out.mono ?_)
  rintro e w4 ⟨rfl, hb4⟩
  have HDN := Lib.hid (HDD.out.grow hb4)
  obtain ⟨y2, y3, hcl⟩ := HDN.out.clock (nextM M.now til)
  have HCL := Lib.hid hcl
  have HS4 : Hid ((fun w' => w'.cell? ⟨p, 2, none⟩ = some (.int .u64 M.now) ∧ w'.frozen? ⟨p, 2, none⟩ = false ∧ w'.cell? ⟨w.heap.size, 6, none⟩ = some (.int .u64 til)) w4) := ⟨y2, y3, (hb4.cell (p := ⟨w.heap.size, 6, none⟩) HDD.out.opb.2).trans g6⟩
  clear hb4 HC hcl y2 y3
  go_wp2_with fail
  refine hK.out _ _ (fun _ => HS4.out) (fun hS => ?_)
  replace hS := hS (by decide)
  clear hK K
  try simp only [Act.put, List.setIfInBounds_toArray, List.set_cons_zero, List.set_cons_succ]
  refine tkL 8 (hS := hS) (h := ?_)
  refine tkL 9 (hS := hS) (h := ?_)
  refine rdL 10 (h := fun K hK => ?_)
  go_simp
  refine hK.out _ _ (fun h => absurd rfl h) (fun hS => ?_)
  clear hS hK K
  try simp only [Act.put, List.setIfInBounds_toArray, List.set_cons_zero, List.set_cons_succ]
  refine wpAnyL_done (by kernel_rfl) ?_ _
  refine NoPanic.normal ?_
  go_wp2_with (refine wpList_store_rep (by rfl) 36 _ _ (by rfl) (w.heap.size + 1) (reC (noM 0) none none 0 0) (by rfl) (by rfl) _ HCL.out.re repSize rfl (reC_one _ _ _ _ _) ?_; intro w5 hs5; have HS5 := Lib.hid hs5; clear hs5)
  exact ret_rep rfl rfl rfl HS5.out.1 (by rw [HSD.out]; exact HCL.out.fin0 HS5.out rfl rfl)
set_option maxRecDepth 100000 in
set_option maxHeartbeats 8000000 in
theorem sdo_k17 {S : Nat → Prop} (hS : StateO o i j k w p M) (hM : Marks W o w) (hk : Mk5 i j k l n) (cc : Int) (hok : StOk cc M) (hcc : cc ≤ 1000000000) (pa to_ : List UInt8) (fd at_ nn til sn : Int) (dt : List UInt8) (hx : OpOk ⟨17, pa, to_, fd, at_, nn, til, sn, dt⟩) (da : Option Addr) (dc : Nat) (hda : RowAt S w da dt.length (dt.map bv)) (m : Int) (hm : w.cell? ⟨0, 0, none⟩ = some (.int .i64 m)) (hp : (pathsO ⟨17, pa, to_, fd, at_, nn, til, sn, dt⟩).2 = 0) :
    Calls Tryz.prog 12 #[ptr p, .agg (opC ⟨17, pa, to_, fd, at_, nn, til, sn, dt⟩ da dc)] w (DoRet o i j k l n w p (sdoM M ⟨17, pa, to_, fd, at_, nn, til, sn, dt⟩)) := by
  have hps : pathsO ⟨17, pa, to_, fd, at_, nn, til, sn, dt⟩ = ([], 0) := rfl
  have hsd : sdoM M ⟨17, pa, to_, fd, at_, nn, til, sn, dt⟩ = sdoP M ⟨17, pa, to_, fd, at_, nn, til, sn, dt⟩ ([]) ([]) := by unfold sdoM; rw [hps]; rfl
  obtain ⟨o1, hd2⟩ := DoAt.start hk hS hM ⟨17, pa, to_, fd, at_, nn, til, sn, dt⟩ da dc
  have hb2 : Below w.heap.size w ((w.alloc (.cells (opC ⟨17, pa, to_, fd, at_, nn, til, sn, dt⟩ da dc) 28)).alloc (.cells (reC (noM 0) none none 0 0) 36)) := (wall w _).trans ((wall _ _).mono (by simp))
  obtain ⟨w2, hw2⟩ : ∃ w2, w2 = (w.alloc (.cells (opC ⟨17, pa, to_, fd, at_, nn, til, sn, dt⟩ da dc) 28)).alloc (.cells (reC (noM 0) none none 0 0) 36) := ⟨_, rfl⟩
  rw [← hw2] at hd2 hb2
  have hm2 : w2.cell? ⟨0, 0, none⟩ = some (.int .i64 m) := (hb2.cell (p := ⟨0, 0, none⟩) (World.block_lt_of_cell? w _ hm)).trans hm
  have hpc := paths_any p w2 ⟨17, pa, to_, fd, at_, nn, til, sn, dt⟩ da dc hx m hm2
  rw [hps] at hpc
  have HPC : Hid (Calls Tryz.prog 36 #[ptr p, .agg (opC ⟨17, pa, to_, fd, at_, nn, til, sn, dt⟩ da dc)] ((w.alloc (.cells (opC ⟨17, pa, to_, fd, at_, nn, til, sn, dt⟩ da dc) 28)).alloc (.cells (reC (noM 0) none none 0 0) 36)) (PathsRet w2 ([], 0))) := by rw [← hw2]; exact Lib.hid hpc
  unfold opC reC noM at HPC
  dsimp only [List.length_nil] at HPC
  have HSD := Lib.hid hsd
  have HOK := Lib.hid hok
  have HX := Lib.hid hx
  have HDA := Lib.hid (hda.below hb2 (Nat.le_refl _))
  have HD2 := Lib.hid hd2
  have HK := Lib.hid hk
  clear hS hM hk hok hx hda hm hp hps hsd hd2 hb2 hm2 hpc hw2
  unfold opC
  go_enter Tryz.func12, Tryz.ntmps12
  go_wp2_with fail
  (with_reducible refine HPC.out.mono ?_)
  clear HPC
  intro e w3 hpr
  obtain ⟨a3, c3, rfl, hb3⟩ := hpr.zero
  clear hpr
  have HD := Lib.hid (HD2.out.grow hb3)
  have HB3 := Lib.hid hb3
  have HDA3 := Lib.hid (HDA.out.below hb3 (Nat.le_refl _))
  have g0 : w3.cell? ⟨w.heap.size, 0, none⟩ = some (.int .i64 17) := by simp [World.cell?, HD.out.op, opC]
  clear hb3 HD2 HDA
  have hsd : sdoM M ⟨17, pa, to_, fd, at_, nn, til, sn, dt⟩ = (noM 0, M) := HSD.out
  replace HSD := Lib.hid hsd
  clear hsd
  go_wp2_with (refine wpList_store_rep (by rfl) 36 _ _ (by rfl) (w.heap.size + 1) (reC (noM 0) none none 0 0) (by rfl) (by rfl) _ HD.out.re repSize rfl (reC_one _ _ _ _ _) ?_; intro w5 hs5; have HS5 := Lib.hid hs5; clear hs5)
  exact ret_rep rfl rfl rfl HS5.out.1 (by rw [HSD.out]; exact HD.out.fin0 HS5.out rfl rfl)
end
end Go.Proofs.YtmabllemjkcobaaGreatDoor
namespace Go.Proofs.YtmabllemjkcobaaGreatDoor
open Go.ChangeShapes Go.WideShapes Go.ChangeAt Go.RowKit
set_option linter.unusedVariables false
set_option linter.unusedSimpArgs false

section
variable {W w : World} {o : Mark} {i j k l n p : Nat} {M : StM}
set_option maxRecDepth 100000 in
set_option maxHeartbeats 8000000 in
theorem sdo_bad (hS : StateO o i j k w p M) (hM : Marks W o w) (hk : Mk5 i j k l n) (x : OpM) (hx : OpOk x) (da : Option Addr) (dc : Nat) (m : Int) (hm : w.cell? ⟨0, 0, none⟩ = some (.int .i64 m)) (hp : (pathsO x).2 ≠ 0) :
    Calls Tryz.prog 12 #[ptr p, .agg (opC x da dc)] w (DoRet o i j k l n w p (sdoM M x)) := by
  have hsd : sdoM M x = (noM (pathsO x).2, M) := if_pos hp
  obtain ⟨o1, hd2⟩ := DoAt.start hk hS hM x da dc
  have hb2 : Below w.heap.size w ((w.alloc (.cells (opC x da dc) 28)).alloc (.cells (reC (noM 0) none none 0 0) 36)) := (wall w _).trans ((wall _ _).mono (by simp))
  obtain ⟨w2, hw2⟩ : ∃ w2, w2 = (w.alloc (.cells (opC x da dc) 28)).alloc (.cells (reC (noM 0) none none 0 0) 36) := ⟨_, rfl⟩
  rw [← hw2] at hd2 hb2
  have hm2 : w2.cell? ⟨0, 0, none⟩ = some (.int .i64 m) := (hb2.cell (p := ⟨0, 0, none⟩) (World.block_lt_of_cell? w _ hm)).trans hm
  have hpc := paths_any p w2 x da dc hx m hm2
  obtain ⟨ps, er, hpe⟩ : ∃ ps er, pathsO x = (ps, er) := ⟨_, _, rfl⟩
  rw [hpe] at hpc hsd hp
  have hp : er ≠ 0 := hp
  have hnz : (er != 0) = true := by simpa using hp
  have HPC : Hid (Calls Tryz.prog 36 #[ptr p, .agg (opC x da dc)] ((w.alloc (.cells (opC x da dc) 28)).alloc (.cells (reC (noM 0) none none 0 0) 36)) (PathsRet w2 (ps, er))) := by rw [← hw2]; exact Lib.hid hpc
  unfold opC reC noM at HPC
  dsimp only [List.length_nil] at HPC
  have HSD := Lib.hid hsd
  have HD2 := Lib.hid hd2
  clear hS hM hk hx hm hp hsd hd2 hb2 hm2 hpc hw2 hpe
  unfold opC
  go_enter Tryz.func12, Tryz.ntmps12
  go_wp2_with fail
  (with_reducible refine HPC.out.mono ?_)
  clear HPC
  rintro e w3 ⟨a3, n3, c3, vs, rfl, -, -, -, -, hb3⟩
  have HD := Lib.hid (HD2.out.grow hb3)
  clear hb3 HD2
  go_wp2_with fail
  (with_reducible refine (no_any _ _).mono ?_)
  rintro e w9 ⟨rfl, hb9⟩
  unfold noV
  have HD9 := Lib.hid (HD.out.grow hb9)
  clear hb9
  go_wp2_with (refine wpList_store_rep (by rfl) 36 _ _ (by rfl) (w.heap.size + 1) (reC (noM er) none none 0 0) (by rfl) (by rfl) _ HD9.out.re repSize rfl (reC_one _ _ _ _ _) ?_; intro w5 hs5; have HS5 := Lib.hid hs5; clear hs5)
  exact ret_rep rfl rfl rfl HS5.out.1 (by rw [HSD.out]; exact HD9.out.fin0 HS5.out rfl rfl)
theorem sdo_any {S : Nat → Prop} (hS : StateO o i j k w p M) (hM : Marks W o w) (hk : Mk5 i j k l n) (cc : Int) (hok : StOk cc M) (hcc : cc ≤ 1000000000) (x : OpM) (hx : OpOk x) (da : Option Addr) (dc : Nat) (hda : RowAt S w da x.data.length (x.data.map bv)) (m : Int) (hm : w.cell? ⟨0, 0, none⟩ = some (.int .i64 m)) :
    Calls Tryz.prog 12 #[ptr p, .agg (opC x da dc)] w (DoRet o i j k l n w p (sdoM M x)) := by
  by_cases hp : (pathsO x).2 = 0
  · have hr : 1 ≤ x.kind ∧ x.kind ≤ 17 := by
      unfold pathsO at hp
      split at hp
      · assumption
      · simp at hp
    obtain ⟨kd, pa, to_, fd, at_, nn, til, sn, dt⟩ := x
    have h' : 1 ≤ kd ∧ kd ≤ 17 := hr
    rcases (show kd = 1 ∨ kd = 2 ∨ kd = 3 ∨ kd = 4 ∨ kd = 5 ∨ kd = 6 ∨ kd = 7 ∨ kd = 8 ∨ kd = 9 ∨ kd = 10 ∨ kd = 11 ∨ kd = 12 ∨ kd = 13 ∨ kd = 14 ∨ kd = 15 ∨ kd = 16 ∨ kd = 17 by omega) with rfl | rfl | rfl | rfl | rfl | rfl | rfl | rfl | rfl | rfl | rfl | rfl | rfl | rfl | rfl | rfl | rfl
    · exact sdo_k1 hS hM hk cc hok hcc pa to_ fd at_ nn til sn dt hx da dc hda m hm hp
    · exact sdo_k2 hS hM hk cc hok hcc pa to_ fd at_ nn til sn dt hx da dc hda m hm hp
    · exact sdo_k3 hS hM hk cc hok hcc pa to_ fd at_ nn til sn dt hx da dc hda m hm hp
    · exact sdo_k4 hS hM hk cc hok hcc pa to_ fd at_ nn til sn dt hx da dc hda m hm hp
    · exact sdo_k5 hS hM hk cc hok hcc pa to_ fd at_ nn til sn dt hx da dc hda m hm hp
    · exact sdo_k6 hS hM hk cc hok hcc pa to_ fd at_ nn til sn dt hx da dc hda m hm hp
    · exact sdo_k7 hS hM hk cc hok hcc pa to_ fd at_ nn til sn dt hx da dc hda m hm hp
    · exact sdo_k8 hS hM hk cc hok hcc pa to_ fd at_ nn til sn dt hx da dc hda m hm hp
    · exact sdo_k9 hS hM hk cc hok hcc pa to_ fd at_ nn til sn dt hx da dc hda m hm hp
    · exact sdo_k10 hS hM hk cc hok hcc pa to_ fd at_ nn til sn dt hx da dc hda m hm hp
    · exact sdo_k11 hS hM hk cc hok hcc pa to_ fd at_ nn til sn dt hx da dc hda m hm hp
    · exact sdo_k12 hS hM hk cc hok hcc pa to_ fd at_ nn til sn dt hx da dc hda m hm hp
    · exact sdo_k13 hS hM hk cc hok hcc pa to_ fd at_ nn til sn dt hx da dc hda m hm hp
    · exact sdo_k14 hS hM hk cc hok hcc pa to_ fd at_ nn til sn dt hx da dc hda m hm hp
    · exact sdo_k15 hS hM hk cc hok hcc pa to_ fd at_ nn til sn dt hx da dc hda m hm hp
    · exact sdo_k16 hS hM hk cc hok hcc pa to_ fd at_ nn til sn dt hx da dc hda m hm hp
    · exact sdo_k17 hS hM hk cc hok hcc pa to_ fd at_ nn til sn dt hx da dc hda m hm hp
  · exact sdo_bad hS hM hk x hx da dc m hm hp
end
end Go.Proofs.YtmabllemjkcobaaGreatDoor
namespace Go.Proofs.YtmabllemjkcobaaGreatDoor
open Go.ChangeShapes Go.WideShapes Go.ChangeAt Go.RowKit
set_option linter.unusedVariables false
set_option linter.unusedSimpArgs false

theorem newTree_mark (W w : World) (o : Mark) (hM : Marks W o w) (j : Nat) : Calls Tryz.prog 32 #[] w fun e w' => ∃ p o', e = .returned (ptr p) ∧ Step o (fun k => k = j) w o' w' ∧ TreeO o' j w' p newM ∧ Below w.heap.size w w' := by
  refine (new_any w).mono ?_
  rintro e w' ⟨g, mb, ib, nb, p, rfl, hA, hg, hb⟩
  obtain ⟨o', hs, h1, h2⟩ := mark_new hM j (fun b => g b ≠ .none) (w' := w') (fun b hb' => ⟨hg b hb', hA.low b hb'⟩) hb
  exact ⟨p, o', rfl, hs, ⟨g, _, mb, ib, nb, hA, fun b hb' => h1 b hb', fun b hb' => hb'.elim⟩, hb⟩
set_option maxRecDepth 100000 in
theorem snew_any (W w : World) (o : Mark) (hM : Marks W o w) {i j k l : Nat} (hk : Mk i j k l) : Calls Tryz.prog 9 #[] w fun e w' => ∃ p o', e = .returned (ptr p) ∧ Step o (fun m => m = i ∨ m = j ∨ m = k ∨ m = l) w o' w' ∧ StateO o' i j k w' p newSt ∧ Below w.heap.size w w' := by
  obtain ⟨n1, n2, n3, n4, n5, n6, n7, n8, n9, n10⟩ := hk.ne
  have HM := Lib.hid hM
  clear hM hk
  go_enter Tryz.func9, Tryz.ntmps9
  go_wp2_with fail
  (with_reducible refine (newTree_mark W w o HM.out j).mono ?_)
  rintro e w1 ⟨t, o1, rfl, hs1, hT1, hb1⟩
  have HM1 := Lib.hid (HM.out.step (fun e => n2 e.symm) hs1)
  have HS1 := Lib.hid hs1
  have HT1 := Lib.hid hT1
  have HB1 := Lib.hid hb1
  clear hs1 hT1 hb1
  go_wp2_with fail
  (with_reducible refine (new_snaps HM1.out i n1).mono ?_)
  rintro e w2 ⟨s, o2, rfl, hs2, hS2, hb2⟩
  have h0i : ¬ (fun m => m = i) 0 := fun e => n1 e.symm
  have h0k : ¬ (fun m => m = k) 0 := fun e => n3 e.symm
  have HM2 := Lib.hid (HM1.out.step h0i hs2)
  have HT2 := Lib.hid (HT1.out.step h0i (fun e => n5 e.symm) hs2)
  have HS2 := Lib.hid hs2
  have HSN := Lib.hid hS2
  have HB2 := Lib.hid hb2
  clear hs2 hS2 hb2
  go_wp2_with fail
  go_ret
  have hb3 : Below w2.heap.size w2 (w2.alloc (.cells (stC t s 0 fun _ => .pointer none) 66)) := wall w2 _
  obtain ⟨o3, hs3, h1, h2⟩ := mark_new HM2.out k (fun b => b = w2.heap.size) (w' := w2.alloc (.cells (stC t s 0 fun _ => .pointer none) 66)) (fun b hb => by subst hb; exact ⟨Nat.le_refl _, by simp⟩) hb3
  exact ⟨w2.heap.size, o3, rfl, ((HS1.out.mono fun m hm => .inr (.inl hm)).trans (HS2.out.mono fun m hm => .inl hm)).trans (hs3.mono fun m hm => .inr (.inr (.inl hm))), ⟨⟨t, s, fun _ => .pointer none, (MapKept.heap_alloc w2 _).1, HSN.out.step h0k n6 hs3, HT2.out.step h0k n8 hs3, fun n hn => rfl⟩, h1 _ rfl, by simp⟩, HB1.out.trans ((HB2.out.trans (hb3.mono HB2.out.size)).mono HB1.out.size)⟩
end Go.Proofs.YtmabllemjkcobaaGreatDoor
namespace Go.Proofs.YtmabllemjkcobaaGreatDoor
open Go.ChangeShapes Go.WideShapes Go.ChangeAt Go.RowKit
set_option linter.unusedVariables false
set_option linter.unusedSimpArgs false

/-- Five marks, from i on. -/
abbrev Five (i : Nat) : Nat → Prop := fun m => i ≤ m ∧ m ≤ i + 4
/-- A law's own state: i, i + 1, i + 2 mark its blocks. -/
structure StW (W : World) (o : Mark) (i : Nat) (w : World) (p : Nat) (c : Int) (M : StM) : Prop where
  st : StateO o i (i + 1) (i + 2) w p M
  marks : Marks W o w
  ok : StOk c M
theorem mk5 {i : Nat} (hi : 0 < i) : Mk5 i (i + 1) (i + 2) (i + 3) (i + 4) := ⟨⟨by omega⟩, by omega⟩
section
variable {W w w' : World} {o o' : Mark} {i p : Nat} {c : Int} {M : StM}
theorem StW.grow (h : StW W o i w p c M) (hb : Below w.heap.size w w') : StW W o i w' p c M := ⟨h.st.grow h.marks hb, h.marks.grow hb, h.ok⟩
theorem StW.below (h : StW W o i w p c M) : Below W.heap.size W w := h.marks.below
theorem StW.mono {d : Int} (h : StW W o i w p c M) (hcd : c ≤ d) : StW W o i w p d M := ⟨h.st, h.marks, h.ok.mono hcd⟩
/-- Another one's turn. -/
theorem StW.other {j : Nat} (h : StW W o i w p c M) (hi : 0 < i) (hj : 0 < j) (hd : i + 4 < j ∨ j + 4 < i) (hs : Step o (Five j) w o' w') : StW W o' i w' p c M :=
  ⟨h.st.step (fun e => by have := e.1; omega) (fun e => by have := e.1; have := e.2; omega) (fun e => by have := e.1; have := e.2; omega) (fun e => by have := e.1; have := e.2; omega) hs, h.marks.step (fun e => by have := e.1; omega) hs, h.ok⟩
theorem five_of {i m : Nat} (h : m = i ∨ m = i + 1 ∨ m = i + 2 ∨ m = i + 3 ∨ m = i + 4) : Five i m := ⟨by omega, by omega⟩
theorem st_new (hM : Marks W o w) (hi : 0 < i) : Calls Tryz.prog 9 #[] w fun e w' => ∃ p o', e = .returned (ptr p) ∧ Step o (Five i) w o' w' ∧ StW W o' i w' p 1 newSt := by
  refine (snew_any W w o hM (mk5 hi).mm).mono ?_
  rintro e w' ⟨p, o', rfl, hs, hS, hb⟩
  have hs5 : Step o (Five i) w o' w' := hs.mono fun m hm => five_of (by omega)
  exact ⟨p, o', rfl, hs5, ⟨hS, hM.step (fun e => by have := e.1; omega) hs5, StOk.new⟩⟩
/-- What a law's Do gives. -/
def DoW (W : World) (o : Mark) (i : Nat) (w : World) (p : Nat) (c : Int) (M : StM) (x : OpM) (e : Ending) (w' : World) : Prop :=
  ∃ o', RepRet o' (sdoM M x).1 e w' ∧ Step o (Five i) w o' w' ∧ StW W o' i w' p (c + 1) (sdoM M x).2
theorem st_do {S : Nat → Prop} (h : StW W o i w p c M) (hi : 0 < i) (hc : c ≤ 1000000000) (x : OpM) (hx : OpOk x) (da : Option Addr) (dc : Nat) (hda : RowAt S w da x.data.length (x.data.map bv)) (m : Int) (hm : W.cell? ⟨0, 0, none⟩ = some (.int .i64 m)) :
    Calls Tryz.prog 12 #[ptr p, .agg (opC x da dc)] w (DoW W o i w p c M x) := by
  have hmw : w.cell? ⟨0, 0, none⟩ = some (.int .i64 m) := (h.marks.below.cell (p := ⟨0, 0, none⟩) (World.block_lt_of_cell? W _ hm)).trans hm
  refine (sdo_any h.st h.marks (mk5 hi) c h.ok hc x hx da dc hda m hmw).mono ?_
  rintro e w' ⟨o', h1, hs, hS⟩
  have hs5 : Step o (Five i) w o' w' := hs.mono fun m hm => five_of hm
  exact ⟨o', h1, hs5, ⟨hS, h.marks.step (fun e => by have := e.1; omega) hs5, h.ok.do_ x hx⟩⟩
end
theorem marks0 (W : World) : Marks W (fun _ => 0) W := ⟨fun b hb => absurd rfl hb, Below.refl _ _⟩
theorem opOk_small {x : OpM} (wk : 0 ≤ x.kind ∧ x.kind ≤ 1000) (wf : 0 ≤ x.fd ∧ x.fd ≤ 1000) (wa : 0 ≤ x.at_ ∧ x.at_ ≤ 1000000) (wn : 0 ≤ x.n ∧ x.n ≤ 1000000) (ws : 0 ≤ x.snap ∧ x.snap ≤ 1000000) (wt : 0 ≤ x.til ∧ x.til ≤ 18446744073709551615) (wp : x.path.length ≤ 1000) (wq : x.to_.length ≤ 1000) (wd : x.data.length ≤ 1000000) : OpOk x :=
  ⟨okInt (by omega) (by omega), okInt (by omega) (by omega), okInt (by omega) (by omega), okInt (by omega) (by omega), okInt (by omega) (by omega), wt, by omega, by omega, by omega⟩
end Go.Proofs.YtmabllemjkcobaaGreatDoor
