/- package state: Do, kinds 1 2 3 4. package state: Do, kinds 5 6 7 8. -/
import Derived.Test.YtmabllemjkcobaaGreatDoorM37
namespace Go.Proofs.YtmabllemjkcobaaGreatDoor
open Go.ChangeShapes Go.WideShapes Go.ChangeAt Go.RowKit
set_option linter.unusedVariables false
set_option linter.unusedSimpArgs false

section
variable {W w : World} {o : Mark} {i j k l n p : Nat} {M : StM}
set_option maxRecDepth 100000 in
set_option maxHeartbeats 8000000 in
theorem sdo_k1 {S : Nat → Prop} (hS : StateO o i j k w p M) (hM : Marks W o w) (hk : Mk5 i j k l n) (cc : Int) (hok : StOk cc M) (hcc : cc ≤ 1000000000) (pa to_ : List UInt8) (fd at_ nn til sn : Int) (dt : List UInt8) (hx : OpOk ⟨1, pa, to_, fd, at_, nn, til, sn, dt⟩) (da : Option Addr) (dc : Nat) (hda : RowAt S w da dt.length (dt.map bv)) (m : Int) (hm : w.cell? ⟨0, 0, none⟩ = some (.int .i64 m)) (hp : (pathsO ⟨1, pa, to_, fd, at_, nn, til, sn, dt⟩).2 = 0) :
    Calls Tryz.prog 12 #[ptr p, .agg (opC ⟨1, pa, to_, fd, at_, nn, til, sn, dt⟩ da dc)] w (DoRet o i j k l n w p (sdoM M ⟨1, pa, to_, fd, at_, nn, til, sn, dt⟩)) := by
  obtain ⟨hps0, hf0⟩ := splits_one (a := pa) hp
  have hps : pathsO ⟨1, pa, to_, fd, at_, nn, til, sn, dt⟩ = ([(pathSplit pa).1], 0) := hps0
  have hsd : sdoM M ⟨1, pa, to_, fd, at_, nn, til, sn, dt⟩ = sdoP M ⟨1, pa, to_, fd, at_, nn, til, sn, dt⟩ ((pathSplit pa).1) ([]) := by unfold sdoM; rw [hps]; rfl
  have h80 := split_few hf0
  obtain ⟨q0, hq0⟩ : ∃ q0, q0 = (pathSplit pa).1 := ⟨_, rfl⟩
  rw [← hq0] at hps hsd h80
  obtain ⟨o1, hd2⟩ := DoAt.start hk hS hM ⟨1, pa, to_, fd, at_, nn, til, sn, dt⟩ da dc
  have hb2 : Below w.heap.size w ((w.alloc (.cells (opC ⟨1, pa, to_, fd, at_, nn, til, sn, dt⟩ da dc) 28)).alloc (.cells (reC (noM 0) none none 0 0) 36)) := (wall w _).trans ((wall _ _).mono (by simp))
  obtain ⟨w2, hw2⟩ : ∃ w2, w2 = (w.alloc (.cells (opC ⟨1, pa, to_, fd, at_, nn, til, sn, dt⟩ da dc) 28)).alloc (.cells (reC (noM 0) none none 0 0) 36) := ⟨_, rfl⟩
  rw [← hw2] at hd2 hb2
  have hm2 : w2.cell? ⟨0, 0, none⟩ = some (.int .i64 m) := (hb2.cell (p := ⟨0, 0, none⟩) (World.block_lt_of_cell? w _ hm)).trans hm
  have hpc := paths_any p w2 ⟨1, pa, to_, fd, at_, nn, til, sn, dt⟩ da dc hx m hm2
  rw [hps] at hpc
  have HPC : Hid (Calls Tryz.prog 36 #[ptr p, .agg (opC ⟨1, pa, to_, fd, at_, nn, til, sn, dt⟩ da dc)] ((w.alloc (.cells (opC ⟨1, pa, to_, fd, at_, nn, til, sn, dt⟩ da dc) 28)).alloc (.cells (reC (noM 0) none none 0 0) 36)) (PathsRet w2 ([q0], 0))) := by rw [← hw2]; exact Lib.hid hpc
  unfold opC reC noM at HPC
  dsimp only [List.length_nil] at HPC
  have HSD := Lib.hid hsd
  have HOK := Lib.hid hok
  have HX := Lib.hid hx
  have HDA := Lib.hid (hda.below hb2 (Nat.le_refl _))
  have HD2 := Lib.hid hd2
  have HK := Lib.hid hk
  clear hS hM hk hok hx hda hm hp hps hsd hd2 hb2 hm2 hpc hw2 hps0 hf0 hq0
  unfold opC
  go_enter Tryz.func12, Tryz.ntmps12
  go_wp2_with fail
  (with_reducible refine HPC.out.mono ?_)
  clear HPC
  intro e w3 hpr
  obtain ⟨b, off, c3, a0, c0, rfl, hb0, hbw, hn0, hb3⟩ := hpr.one
  clear hpr
  have HD := Lib.hid (HD2.out.grow hb3)
  have HB3 := Lib.hid hb3
  have HBF : Hid (o1 b = 0 ∧ b < w3.heap.size) := ⟨Decidable.byContradiction fun h0 => by have := (HD2.out.marks.new b h0).2; omega, hbw⟩
  have hc0 := hn0.cell
  have HN0 := Lib.hid hn0
  clear hn0
  have HDA3 := Lib.hid (HDA.out.below hb3 (Nat.le_refl _))
  have g0 : w3.cell? ⟨w.heap.size, 0, none⟩ = some (.int .i64 1) := by simp [World.cell?, HD.out.op, opC]
  clear hb3 HD2 HDA
  have hsd : sdoM M ⟨1, pa, to_, fd, at_, nn, til, sn, dt⟩ = screateM M q0 := HSD.out
  replace HSD := Lib.hid hsd
  clear hsd
  obtain ⟨rr, hrr⟩ : ∃ rr, rr = screateM M q0 := ⟨_, rfl⟩
  have HC := Lib.hid (screate_any HD.out.st HD.out.marks HD.out.mm.mm HOK.out.t.1 a0 q0.length c0 q0 HN0.out.strs HN0.out.cap (by omega))
  rw [← hrr] at HC
  rw [← hrr] at HSD
  clear hrr
  go_wp2_with fail
  (with_reducible refine HC.out.mono ?_)
  rintro e w4 ⟨o4, ⟨v4, rfl, da4, la4, dc4, lc4, rfl, k1, k2, k3, k4⟩, hs4, hS4⟩
  have HD4 := Lib.hid (HD.out.turn hs4 hS4)
  have HK4 := Lib.hid (And.intro k1 (And.intro k2 (And.intro k3 k4)))
  clear k1 k2 k3 k4 hs4 hS4 HC
  go_wp2_with (refine wpList_store_rep (by rfl) 36 _ _ (by rfl) (w.heap.size + 1) (reC (rr.1) da4 la4 dc4 lc4) (by rfl) (by rfl) _ HD4.out.re repSize rfl (reC_one _ _ _ _ _) ?_; intro w5 hs5; have HS5 := Lib.hid hs5; clear hs5)
  exact ret_rep rfl rfl rfl HS5.out.1 (by rw [HSD.out]; exact HD4.out.fin HS5.out HK4.out.1 HK4.out.2.1 HK4.out.2.2.1 HK4.out.2.2.2)
set_option maxRecDepth 100000 in
set_option maxHeartbeats 8000000 in
theorem sdo_k2 {S : Nat → Prop} (hS : StateO o i j k w p M) (hM : Marks W o w) (hk : Mk5 i j k l n) (cc : Int) (hok : StOk cc M) (hcc : cc ≤ 1000000000) (pa to_ : List UInt8) (fd at_ nn til sn : Int) (dt : List UInt8) (hx : OpOk ⟨2, pa, to_, fd, at_, nn, til, sn, dt⟩) (da : Option Addr) (dc : Nat) (hda : RowAt S w da dt.length (dt.map bv)) (m : Int) (hm : w.cell? ⟨0, 0, none⟩ = some (.int .i64 m)) (hp : (pathsO ⟨2, pa, to_, fd, at_, nn, til, sn, dt⟩).2 = 0) :
    Calls Tryz.prog 12 #[ptr p, .agg (opC ⟨2, pa, to_, fd, at_, nn, til, sn, dt⟩ da dc)] w (DoRet o i j k l n w p (sdoM M ⟨2, pa, to_, fd, at_, nn, til, sn, dt⟩)) := by
  obtain ⟨hps0, hf0⟩ := splits_one (a := pa) hp
  have hps : pathsO ⟨2, pa, to_, fd, at_, nn, til, sn, dt⟩ = ([(pathSplit pa).1], 0) := hps0
  have hsd : sdoM M ⟨2, pa, to_, fd, at_, nn, til, sn, dt⟩ = sdoP M ⟨2, pa, to_, fd, at_, nn, til, sn, dt⟩ ((pathSplit pa).1) ([]) := by unfold sdoM; rw [hps]; rfl
  have h80 := split_few hf0
  obtain ⟨q0, hq0⟩ : ∃ q0, q0 = (pathSplit pa).1 := ⟨_, rfl⟩
  rw [← hq0] at hps hsd h80
  obtain ⟨o1, hd2⟩ := DoAt.start hk hS hM ⟨2, pa, to_, fd, at_, nn, til, sn, dt⟩ da dc
  have hb2 : Below w.heap.size w ((w.alloc (.cells (opC ⟨2, pa, to_, fd, at_, nn, til, sn, dt⟩ da dc) 28)).alloc (.cells (reC (noM 0) none none 0 0) 36)) := (wall w _).trans ((wall _ _).mono (by simp))
  obtain ⟨w2, hw2⟩ : ∃ w2, w2 = (w.alloc (.cells (opC ⟨2, pa, to_, fd, at_, nn, til, sn, dt⟩ da dc) 28)).alloc (.cells (reC (noM 0) none none 0 0) 36) := ⟨_, rfl⟩
  rw [← hw2] at hd2 hb2
  have hm2 : w2.cell? ⟨0, 0, none⟩ = some (.int .i64 m) := (hb2.cell (p := ⟨0, 0, none⟩) (World.block_lt_of_cell? w _ hm)).trans hm
  have hpc := paths_any p w2 ⟨2, pa, to_, fd, at_, nn, til, sn, dt⟩ da dc hx m hm2
  rw [hps] at hpc
  have HPC : Hid (Calls Tryz.prog 36 #[ptr p, .agg (opC ⟨2, pa, to_, fd, at_, nn, til, sn, dt⟩ da dc)] ((w.alloc (.cells (opC ⟨2, pa, to_, fd, at_, nn, til, sn, dt⟩ da dc) 28)).alloc (.cells (reC (noM 0) none none 0 0) 36)) (PathsRet w2 ([q0], 0))) := by rw [← hw2]; exact Lib.hid hpc
  unfold opC reC noM at HPC
  dsimp only [List.length_nil] at HPC
  have HSD := Lib.hid hsd
  have HOK := Lib.hid hok
  have HX := Lib.hid hx
  have HDA := Lib.hid (hda.below hb2 (Nat.le_refl _))
  have HD2 := Lib.hid hd2
  have HK := Lib.hid hk
  clear hS hM hk hok hx hda hm hp hps hsd hd2 hb2 hm2 hpc hw2 hps0 hf0 hq0
  unfold opC
  go_enter Tryz.func12, Tryz.ntmps12
  go_wp2_with fail
  (with_reducible refine HPC.out.mono ?_)
  clear HPC
  intro e w3 hpr
  obtain ⟨b, off, c3, a0, c0, rfl, hb0, hbw, hn0, hb3⟩ := hpr.one
  clear hpr
  have HD := Lib.hid (HD2.out.grow hb3)
  have HB3 := Lib.hid hb3
  have HBF : Hid (o1 b = 0 ∧ b < w3.heap.size) := ⟨Decidable.byContradiction fun h0 => by have := (HD2.out.marks.new b h0).2; omega, hbw⟩
  have hc0 := hn0.cell
  have HN0 := Lib.hid hn0
  clear hn0
  have HDA3 := Lib.hid (HDA.out.below hb3 (Nat.le_refl _))
  have g0 : w3.cell? ⟨w.heap.size, 0, none⟩ = some (.int .i64 2) := by simp [World.cell?, HD.out.op, opC]
  clear hb3 HD2 HDA
  have HDD := Lib.hid (HD.out.grow (Below.refl _ _).drew)
  have hMd := HDD.out.marks
  have HST0 := Lib.hid (HN0.out.strs.below (Below.refl _ _).drew (Nat.le_refl _))
  obtain ⟨t, z0, hT3, htr⟩ := HDD.out.callT
  have z0' : w3.cell? ⟨p, 0, none⟩ = some (ptr t) := z0
  have HTR := Lib.hid htr
  have hsd : sdoM M ⟨2, pa, to_, fd, at_, nn, til, sn, dt⟩ = (noM (makeM M.t q0 2).1.2, M.tr (makeM M.t q0 2).2) := HSD.out
  replace HSD := Lib.hid hsd
  clear hsd
  have HC := Lib.hid (om_make hT3 hMd HK.out.mm.ne.2.1 HOK.out.t.1 a0 q0.length c0 q0 2 HST0.out HN0.out.cap (by omega))
  obtain ⟨rr, hrr⟩ : ∃ rr, rr = makeM M.t q0 2 := ⟨_, rfl⟩
  rw [← hrr] at HC HSD
  clear hrr htr hT3 hMd z0
  go_wp2_with fail
  refine wp_region_noPanic ?_
  refine wp_region_held_drew (S := (fun w' => w'.cell? ⟨p, 0, none⟩ = some (ptr t) ∧ w'.cell? ⟨b, off, none⟩ = some (.slice a0 q0.length c0))) (by kernel_rfl) ?_ (fun hS => ?_)
  · exact ⟨z0', hc0⟩
  refine tkH 0 (hS := hS) (h := ?_)
  refine tkH 1 (hS := hS) (h := ?_)
  refine tkH 2 (hS := hS) (h := ?_)
  refine tkH 3 (hS := hS) (h := ?_)
  refine tkH 4 (hS := hS) (h := ?_)
  refine tkH 5 (hS := hS) (h := ?_)
  refine tkH 6 (hS := hS) (h := ?_)
  refine rdH 7 (h := fun K hK => ?_)
  go_simp
  (with_reducible refine HC.out.mono ?_)
  rintro e w4 ⟨rfl, o4, hs4, hT4⟩
  obtain ⟨hd4, hp4⟩ := HTR.out _ _ _ hs4 hT4
  have HD4 := Lib.hid hd4
  have hb4 : w4.heap[b]? = w3.heap[b]? := HDD.out.stays (hs4.mono fun m hm => .inr (.inl hm)) HBF.out
  have hp4' : w4.heap[p]? = w3.heap[p]? := hp4
  clear hd4 hs4 hT4 hp4 HC
  have HS4 : Hid ((fun w' => w'.cell? ⟨p, 0, none⟩ = some (ptr t) ∧ w'.cell? ⟨b, off, none⟩ = some (.slice a0 q0.length c0)) w4) := ⟨(World.cell?_of_block hp4').trans z0', (World.cell?_of_block hb4).trans hc0⟩
  clear hb4 hp4'
  go_wp2_with fail
  refine hK.out _ _ (HS4.out) (fun hS => ?_)
  clear hK K
  try simp only [Act.put, List.setIfInBounds_toArray, List.set_cons_zero, List.set_cons_succ]
  refine tkH 8 (hS := hS) (h := ?_)
  refine tkH 9 (hS := hS) (h := ?_)
  refine tkH 10 (hS := hS) (h := ?_)
  refine tkH 11 (hS := hS) (h := ?_)
  refine tkH 12 (hS := hS) (h := ?_)
  refine wpAnyH_done (by kernel_rfl) ?_ _
  refine NoPanic.normal ?_
  go_wp2_with fail
  (with_reducible refine (no_any _ _).mono ?_)
  rintro e w9 ⟨rfl, hb9⟩
  unfold noV
  have HD9 := Lib.hid (HD4.out.grow hb9)
  clear hb9
  go_wp2_with (refine wpList_store_rep (by rfl) 36 _ _ (by rfl) (w.heap.size + 1) (reC (noM (rr.1.2)) none none 0 0) (by rfl) (by rfl) _ HD9.out.re repSize rfl (reC_one _ _ _ _ _) ?_; intro w5 hs5; have HS5 := Lib.hid hs5; clear hs5)
  exact ret_rep rfl rfl rfl HS5.out.1 (by rw [HSD.out]; exact HD9.out.fin0 HS5.out rfl rfl)
set_option maxRecDepth 100000 in
set_option maxHeartbeats 8000000 in
theorem sdo_k3 {S : Nat → Prop} (hS : StateO o i j k w p M) (hM : Marks W o w) (hk : Mk5 i j k l n) (cc : Int) (hok : StOk cc M) (hcc : cc ≤ 1000000000) (pa to_ : List UInt8) (fd at_ nn til sn : Int) (dt : List UInt8) (hx : OpOk ⟨3, pa, to_, fd, at_, nn, til, sn, dt⟩) (da : Option Addr) (dc : Nat) (hda : RowAt S w da dt.length (dt.map bv)) (m : Int) (hm : w.cell? ⟨0, 0, none⟩ = some (.int .i64 m)) (hp : (pathsO ⟨3, pa, to_, fd, at_, nn, til, sn, dt⟩).2 = 0) :
    Calls Tryz.prog 12 #[ptr p, .agg (opC ⟨3, pa, to_, fd, at_, nn, til, sn, dt⟩ da dc)] w (DoRet o i j k l n w p (sdoM M ⟨3, pa, to_, fd, at_, nn, til, sn, dt⟩)) := by
  obtain ⟨hps0, hf0⟩ := splits_one (a := pa) hp
  have hps : pathsO ⟨3, pa, to_, fd, at_, nn, til, sn, dt⟩ = ([(pathSplit pa).1], 0) := hps0
  have hsd : sdoM M ⟨3, pa, to_, fd, at_, nn, til, sn, dt⟩ = sdoP M ⟨3, pa, to_, fd, at_, nn, til, sn, dt⟩ ((pathSplit pa).1) ([]) := by unfold sdoM; rw [hps]; rfl
  have h80 := split_few hf0
  obtain ⟨q0, hq0⟩ : ∃ q0, q0 = (pathSplit pa).1 := ⟨_, rfl⟩
  rw [← hq0] at hps hsd h80
  obtain ⟨o1, hd2⟩ := DoAt.start hk hS hM ⟨3, pa, to_, fd, at_, nn, til, sn, dt⟩ da dc
  have hb2 : Below w.heap.size w ((w.alloc (.cells (opC ⟨3, pa, to_, fd, at_, nn, til, sn, dt⟩ da dc) 28)).alloc (.cells (reC (noM 0) none none 0 0) 36)) := (wall w _).trans ((wall _ _).mono (by simp))
  obtain ⟨w2, hw2⟩ : ∃ w2, w2 = (w.alloc (.cells (opC ⟨3, pa, to_, fd, at_, nn, til, sn, dt⟩ da dc) 28)).alloc (.cells (reC (noM 0) none none 0 0) 36) := ⟨_, rfl⟩
  rw [← hw2] at hd2 hb2
  have hm2 : w2.cell? ⟨0, 0, none⟩ = some (.int .i64 m) := (hb2.cell (p := ⟨0, 0, none⟩) (World.block_lt_of_cell? w _ hm)).trans hm
  have hpc := paths_any p w2 ⟨3, pa, to_, fd, at_, nn, til, sn, dt⟩ da dc hx m hm2
  rw [hps] at hpc
  have HPC : Hid (Calls Tryz.prog 36 #[ptr p, .agg (opC ⟨3, pa, to_, fd, at_, nn, til, sn, dt⟩ da dc)] ((w.alloc (.cells (opC ⟨3, pa, to_, fd, at_, nn, til, sn, dt⟩ da dc) 28)).alloc (.cells (reC (noM 0) none none 0 0) 36)) (PathsRet w2 ([q0], 0))) := by rw [← hw2]; exact Lib.hid hpc
  unfold opC reC noM at HPC
  dsimp only [List.length_nil] at HPC
  have HSD := Lib.hid hsd
  have HOK := Lib.hid hok
  have HX := Lib.hid hx
  have HDA := Lib.hid (hda.below hb2 (Nat.le_refl _))
  have HD2 := Lib.hid hd2
  have HK := Lib.hid hk
  clear hS hM hk hok hx hda hm hp hps hsd hd2 hb2 hm2 hpc hw2 hps0 hf0 hq0
  unfold opC
  go_enter Tryz.func12, Tryz.ntmps12
  go_wp2_with fail
  (with_reducible refine HPC.out.mono ?_)
  clear HPC
  intro e w3 hpr
  obtain ⟨b, off, c3, a0, c0, rfl, hb0, hbw, hn0, hb3⟩ := hpr.one
  clear hpr
  have HD := Lib.hid (HD2.out.grow hb3)
  have HB3 := Lib.hid hb3
  have HBF : Hid (o1 b = 0 ∧ b < w3.heap.size) := ⟨Decidable.byContradiction fun h0 => by have := (HD2.out.marks.new b h0).2; omega, hbw⟩
  have hc0 := hn0.cell
  have HN0 := Lib.hid hn0
  clear hn0
  have HDA3 := Lib.hid (HDA.out.below hb3 (Nat.le_refl _))
  have g0 : w3.cell? ⟨w.heap.size, 0, none⟩ = some (.int .i64 3) := by simp [World.cell?, HD.out.op, opC]
  clear hb3 HD2 HDA
  have HDD := Lib.hid (HD.out.grow (Below.refl _ _).drew)
  have hMd := HDD.out.marks
  have HST0 := Lib.hid (HN0.out.strs.below (Below.refl _ _).drew (Nat.le_refl _))
  have hsd : sdoM M ⟨3, pa, to_, fd, at_, nn, til, sn, dt⟩ = sopenM M q0 sn := HSD.out
  replace HSD := Lib.hid hsd
  clear hsd
  have HC := Lib.hid (sopen_any HDD.out.st hMd HK.out.mm HOK.out.t.1 (by have := HOK.out.s.few; omega) a0 q0.length c0 q0 HST0.out sn (fun T hT => look_wf (HOK.out.treeAt hT).1 q0))
  obtain ⟨rr, hrr⟩ : ∃ rr, rr = sopenM M q0 sn := ⟨_, rfl⟩
  have g7 : w3.cell? ⟨w.heap.size, 7, none⟩ = some (.int .i64 sn) := by simp [World.cell?, HD.out.op, opC]
  rw [← hrr] at HC HSD
  clear hrr hMd
  go_wp2_with fail
  refine wp_region_noPanic ?_
  refine wp_region_L (last := 7) (S := (fun w' => w'.cell? ⟨b, off, none⟩ = some (.slice a0 q0.length c0) ∧ w'.cell? ⟨w.heap.size, 7, none⟩ = some (.int .i64 sn))) (by kernel_rfl) ?_ (fun hS => ?_)
  · exact ⟨hc0, g7⟩
  refine tkL 0 (hS := hS) (h := ?_)
  refine tkL 1 (hS := hS) (h := ?_)
  refine tkL 2 (hS := hS) (h := ?_)
  refine tkL 3 (hS := hS) (h := ?_)
  refine tkL 4 (hS := hS) (h := ?_)
  refine tkL 5 (hS := hS) (h := ?_)
  refine rdL 6 (h := fun K hK => ?_)
  go_simp
  (with_reducible refine HC.out.mono ?_)
  rintro e w4 ⟨o4, ⟨v4, rfl, da4, la4, dc4, lc4, rfl, k1, k2, k3, k4⟩, hs4, hS4⟩
  have HD4 := Lib.hid (HDD.out.turn hs4 hS4)
  have HK4 := Lib.hid (And.intro k1 (And.intro k2 (And.intro k3 k4)))
  have hb4 : w4.heap[b]? = w3.heap[b]? := HDD.out.stays hs4 HBF.out
  have ho4 : w4.heap[w.heap.size]? = w3.heap[w.heap.size]? := HDD.out.stays hs4 HDD.out.opb
  clear k1 k2 k3 k4 hs4 hS4 HC
  have HS4 : Hid ((fun w' => w'.cell? ⟨b, off, none⟩ = some (.slice a0 q0.length c0) ∧ w'.cell? ⟨w.heap.size, 7, none⟩ = some (.int .i64 sn)) w4) := ⟨(World.cell?_of_block hb4).trans hc0, (World.cell?_of_block ho4).trans g7⟩
  clear hb4 ho4
  go_wp2_with fail
  refine hK.out _ _ (fun _ => HS4.out) (fun hS => ?_)
  replace hS := hS (by decide)
  clear hK K
  try simp only [Act.put, List.setIfInBounds_toArray, List.set_cons_zero, List.set_cons_succ]
  refine wpAnyL_ready (rs := [7]) (by kernel_rfl) (by simp) ?_
  refine AllReadyL.cons (o := ?o1) ?ho1 (fun K hK => ?_) AllReadyL.nil
  case ho1 => simp only [List.getElem?_toArray, List.getElem?_cons_succ, List.getElem?_cons_zero]; rfl
  refine step_store_rep rfl 36 _ _ rfl (w.heap.size + 1) (reC (rr.1) da4 la4 dc4 lc4) rfl rfl _ HD4.out.re repSize rfl (reC_one _ _ _ _ _) ?_
  intro w5 hs5
  have HS5 := Lib.hid hs5
  clear hs5
  refine hK.out _ _ (fun h => absurd rfl h) (fun hS => ?_)
  clear hS hK K
  try simp only [Act.put, List.setIfInBounds_toArray, List.set_cons_zero, List.set_cons_succ]
  refine wpAnyL_done (by kernel_rfl) ?_ _
  refine NoPanic.normal ?_
  go_wp2_with fail
  exact ret_rep rfl rfl rfl HS5.out.1 (by rw [HSD.out]; exact HD4.out.fin HS5.out HK4.out.1 HK4.out.2.1 HK4.out.2.2.1 HK4.out.2.2.2)
set_option maxRecDepth 100000 in
set_option maxHeartbeats 8000000 in
theorem sdo_k4 {S : Nat → Prop} (hS : StateO o i j k w p M) (hM : Marks W o w) (hk : Mk5 i j k l n) (cc : Int) (hok : StOk cc M) (hcc : cc ≤ 1000000000) (pa to_ : List UInt8) (fd at_ nn til sn : Int) (dt : List UInt8) (hx : OpOk ⟨4, pa, to_, fd, at_, nn, til, sn, dt⟩) (da : Option Addr) (dc : Nat) (hda : RowAt S w da dt.length (dt.map bv)) (m : Int) (hm : w.cell? ⟨0, 0, none⟩ = some (.int .i64 m)) (hp : (pathsO ⟨4, pa, to_, fd, at_, nn, til, sn, dt⟩).2 = 0) :
    Calls Tryz.prog 12 #[ptr p, .agg (opC ⟨4, pa, to_, fd, at_, nn, til, sn, dt⟩ da dc)] w (DoRet o i j k l n w p (sdoM M ⟨4, pa, to_, fd, at_, nn, til, sn, dt⟩)) := by
  have hps : pathsO ⟨4, pa, to_, fd, at_, nn, til, sn, dt⟩ = ([], 0) := rfl
  have hsd : sdoM M ⟨4, pa, to_, fd, at_, nn, til, sn, dt⟩ = sdoP M ⟨4, pa, to_, fd, at_, nn, til, sn, dt⟩ ([]) ([]) := by unfold sdoM; rw [hps]; rfl
  obtain ⟨o1, hd2⟩ := DoAt.start hk hS hM ⟨4, pa, to_, fd, at_, nn, til, sn, dt⟩ da dc
  have hb2 : Below w.heap.size w ((w.alloc (.cells (opC ⟨4, pa, to_, fd, at_, nn, til, sn, dt⟩ da dc) 28)).alloc (.cells (reC (noM 0) none none 0 0) 36)) := (wall w _).trans ((wall _ _).mono (by simp))
  obtain ⟨w2, hw2⟩ : ∃ w2, w2 = (w.alloc (.cells (opC ⟨4, pa, to_, fd, at_, nn, til, sn, dt⟩ da dc) 28)).alloc (.cells (reC (noM 0) none none 0 0) 36) := ⟨_, rfl⟩
  rw [← hw2] at hd2 hb2
  have hm2 : w2.cell? ⟨0, 0, none⟩ = some (.int .i64 m) := (hb2.cell (p := ⟨0, 0, none⟩) (World.block_lt_of_cell? w _ hm)).trans hm
  have hpc := paths_any p w2 ⟨4, pa, to_, fd, at_, nn, til, sn, dt⟩ da dc hx m hm2
  rw [hps] at hpc
  have HPC : Hid (Calls Tryz.prog 36 #[ptr p, .agg (opC ⟨4, pa, to_, fd, at_, nn, til, sn, dt⟩ da dc)] ((w.alloc (.cells (opC ⟨4, pa, to_, fd, at_, nn, til, sn, dt⟩ da dc) 28)).alloc (.cells (reC (noM 0) none none 0 0) 36)) (PathsRet w2 ([], 0))) := by rw [← hw2]; exact Lib.hid hpc
  unfold opC reC noM at HPC
  dsimp only [List.length_nil] at HPC
  have HSD := Lib.hid hsd
  have HOK := Lib.hid hok
  have HX := Lib.hid hx
  have HDA := Lib.hid (hda.below hb2 (Nat.le_refl _))
  have HD2 := Lib.hid hd2
  have HK := Lib.hid hk
  clear hS hM hk hok hx hda hm hp hps hsd hd2 hb2 hm2 hpc hw2
  unfold opC
  go_enter Tryz.func12, Tryz.ntmps12
  go_wp2_with fail
  (with_reducible refine HPC.out.mono ?_)
  clear HPC
  intro e w3 hpr
  obtain ⟨a3, c3, rfl, hb3⟩ := hpr.zero
  clear hpr
  have HD := Lib.hid (HD2.out.grow hb3)
  have HB3 := Lib.hid hb3
  have HDA3 := Lib.hid (HDA.out.below hb3 (Nat.le_refl _))
  have g0 : w3.cell? ⟨w.heap.size, 0, none⟩ = some (.int .i64 4) := by simp [World.cell?, HD.out.op, opC]
  clear hb3 HD2 HDA
  have hsd : sdoM M ⟨4, pa, to_, fd, at_, nn, til, sn, dt⟩ = (sreadM M ⟨4, pa, to_, fd, at_, nn, til, sn, dt⟩, M) := HSD.out
  replace HSD := Lib.hid hsd
  clear hsd
  obtain ⟨rr, hrr⟩ : ∃ rr, rr = sreadM M ⟨4, pa, to_, fd, at_, nn, til, sn, dt⟩ := ⟨_, rfl⟩
  have HC := Lib.hid (sread_any HD.out.st HD.out.marks ⟨4, pa, to_, fd, at_, nn, til, sn, dt⟩ HX.out (fun q f hf => by have := (HOK.out.fd q f hf).2.2; omega) da dc)
  unfold opC at HC
  rw [← hrr] at HC HSD
  clear hrr
  have g1 : w3.cell? ⟨w.heap.size, 1, none⟩ = some (.string (strOf pa)) := by simp [World.cell?, HD.out.op, opC]
  have g2 : w3.cell? ⟨w.heap.size, 2, none⟩ = some (.string (strOf to_)) := by simp [World.cell?, HD.out.op, opC]
  have g3 : w3.cell? ⟨w.heap.size, 3, none⟩ = some (.int .i64 fd) := by simp [World.cell?, HD.out.op, opC]
  have g4 : w3.cell? ⟨w.heap.size, 4, none⟩ = some (.int .i64 at_) := by simp [World.cell?, HD.out.op, opC]
  have g5 : w3.cell? ⟨w.heap.size, 5, none⟩ = some (.int .i64 nn) := by simp [World.cell?, HD.out.op, opC]
  have g6 : w3.cell? ⟨w.heap.size, 6, none⟩ = some (.int .u64 til) := by simp [World.cell?, HD.out.op, opC]
  have g7 : w3.cell? ⟨w.heap.size, 7, none⟩ = some (.int .i64 sn) := by simp [World.cell?, HD.out.op, opC]
  have g8 : w3.cell? ⟨w.heap.size, 8, none⟩ = some (.slice da dt.length dc) := by simp [World.cell?, HD.out.op, opC]
  go_wp2_with fail
  (with_reducible refine HC.out.mono ?_)
  rintro e w4 ⟨⟨v4, rfl, da4, la4, dc4, lc4, rfl, k1, k2, k3, k4⟩, hb4⟩
  have HD4 := Lib.hid (HD.out.grow hb4)
  have HK4 := Lib.hid (And.intro k1 (And.intro k2 (And.intro k3 k4)))
  clear k1 k2 k3 k4 HC hb4
  go_wp2_with (refine wpList_store_rep (by rfl) 36 _ _ (by rfl) (w.heap.size + 1) (reC (rr) da4 la4 dc4 lc4) (by rfl) (by rfl) _ HD4.out.re repSize rfl (reC_one _ _ _ _ _) ?_; intro w5 hs5; have HS5 := Lib.hid hs5; clear hs5)
  exact ret_rep rfl rfl rfl HS5.out.1 (by rw [HSD.out]; exact HD4.out.fin HS5.out HK4.out.1 HK4.out.2.1 HK4.out.2.2.1 HK4.out.2.2.2)
end
end Go.Proofs.YtmabllemjkcobaaGreatDoor
namespace Go.Proofs.YtmabllemjkcobaaGreatDoor
open Go.ChangeShapes Go.WideShapes Go.ChangeAt Go.RowKit
set_option linter.unusedVariables false
set_option linter.unusedSimpArgs false

section
variable {W w : World} {o : Mark} {i j k l n p : Nat} {M : StM}
set_option maxRecDepth 100000 in
set_option maxHeartbeats 8000000 in
theorem sdo_k5 {S : Nat → Prop} (hS : StateO o i j k w p M) (hM : Marks W o w) (hk : Mk5 i j k l n) (cc : Int) (hok : StOk cc M) (hcc : cc ≤ 1000000000) (pa to_ : List UInt8) (fd at_ nn til sn : Int) (dt : List UInt8) (hx : OpOk ⟨5, pa, to_, fd, at_, nn, til, sn, dt⟩) (da : Option Addr) (dc : Nat) (hda : RowAt S w da dt.length (dt.map bv)) (m : Int) (hm : w.cell? ⟨0, 0, none⟩ = some (.int .i64 m)) (hp : (pathsO ⟨5, pa, to_, fd, at_, nn, til, sn, dt⟩).2 = 0) :
    Calls Tryz.prog 12 #[ptr p, .agg (opC ⟨5, pa, to_, fd, at_, nn, til, sn, dt⟩ da dc)] w (DoRet o i j k l n w p (sdoM M ⟨5, pa, to_, fd, at_, nn, til, sn, dt⟩)) := by
  have hps : pathsO ⟨5, pa, to_, fd, at_, nn, til, sn, dt⟩ = ([], 0) := rfl
  have hsd : sdoM M ⟨5, pa, to_, fd, at_, nn, til, sn, dt⟩ = sdoP M ⟨5, pa, to_, fd, at_, nn, til, sn, dt⟩ ([]) ([]) := by unfold sdoM; rw [hps]; rfl
  obtain ⟨o1, hd2⟩ := DoAt.start hk hS hM ⟨5, pa, to_, fd, at_, nn, til, sn, dt⟩ da dc
  have hb2 : Below w.heap.size w ((w.alloc (.cells (opC ⟨5, pa, to_, fd, at_, nn, til, sn, dt⟩ da dc) 28)).alloc (.cells (reC (noM 0) none none 0 0) 36)) := (wall w _).trans ((wall _ _).mono (by simp))
  obtain ⟨w2, hw2⟩ : ∃ w2, w2 = (w.alloc (.cells (opC ⟨5, pa, to_, fd, at_, nn, til, sn, dt⟩ da dc) 28)).alloc (.cells (reC (noM 0) none none 0 0) 36) := ⟨_, rfl⟩
  rw [← hw2] at hd2 hb2
  have hm2 : w2.cell? ⟨0, 0, none⟩ = some (.int .i64 m) := (hb2.cell (p := ⟨0, 0, none⟩) (World.block_lt_of_cell? w _ hm)).trans hm
  have hpc := paths_any p w2 ⟨5, pa, to_, fd, at_, nn, til, sn, dt⟩ da dc hx m hm2
  rw [hps] at hpc
  have HPC : Hid (Calls Tryz.prog 36 #[ptr p, .agg (opC ⟨5, pa, to_, fd, at_, nn, til, sn, dt⟩ da dc)] ((w.alloc (.cells (opC ⟨5, pa, to_, fd, at_, nn, til, sn, dt⟩ da dc) 28)).alloc (.cells (reC (noM 0) none none 0 0) 36)) (PathsRet w2 ([], 0))) := by rw [← hw2]; exact Lib.hid hpc
  unfold opC reC noM at HPC
  dsimp only [List.length_nil] at HPC
  have HSD := Lib.hid hsd
  have HOK := Lib.hid hok
  have HX := Lib.hid hx
  have HDA := Lib.hid (hda.below hb2 (Nat.le_refl _))
  have HD2 := Lib.hid hd2
  have HK := Lib.hid hk
  clear hS hM hk hok hx hda hm hp hps hsd hd2 hb2 hm2 hpc hw2
  unfold opC
  go_enter Tryz.func12, Tryz.ntmps12
  go_wp2_with fail
  (with_reducible refine HPC.out.mono ?_)
  clear HPC
  intro e w3 hpr
  obtain ⟨a3, c3, rfl, hb3⟩ := hpr.zero
  clear hpr
  have HD := Lib.hid (HD2.out.grow hb3)
  have HB3 := Lib.hid hb3
  have HDA3 := Lib.hid (HDA.out.below hb3 (Nat.le_refl _))
  have g0 : w3.cell? ⟨w.heap.size, 0, none⟩ = some (.int .i64 5) := by simp [World.cell?, HD.out.op, opC]
  clear hb3 HD2 HDA
  have hsd : sdoM M ⟨5, pa, to_, fd, at_, nn, til, sn, dt⟩ = swriteM M ⟨5, pa, to_, fd, at_, nn, til, sn, dt⟩ := HSD.out
  replace HSD := Lib.hid hsd
  clear hsd
  obtain ⟨rr, hrr⟩ : ∃ rr, rr = swriteM M ⟨5, pa, to_, fd, at_, nn, til, sn, dt⟩ := ⟨_, rfl⟩
  have HC := Lib.hid (swrite_any HD.out.st HD.out.marks HD.out.mm.mm HOK.out.t.1 ⟨5, pa, to_, fd, at_, nn, til, sn, dt⟩ HX.out (fun q f hf => okInt (by have := HOK.out.fd q f hf; have := this.1; omega) (by have := HOK.out.fd q f hf; have := this.2.1; omega)) da dc HDA3.out)
  unfold opC at HC
  rw [← hrr] at HC HSD
  clear hrr
  have g1 : w3.cell? ⟨w.heap.size, 1, none⟩ = some (.string (strOf pa)) := by simp [World.cell?, HD.out.op, opC]
  have g2 : w3.cell? ⟨w.heap.size, 2, none⟩ = some (.string (strOf to_)) := by simp [World.cell?, HD.out.op, opC]
  have g3 : w3.cell? ⟨w.heap.size, 3, none⟩ = some (.int .i64 fd) := by simp [World.cell?, HD.out.op, opC]
  have g4 : w3.cell? ⟨w.heap.size, 4, none⟩ = some (.int .i64 at_) := by simp [World.cell?, HD.out.op, opC]
  have g5 : w3.cell? ⟨w.heap.size, 5, none⟩ = some (.int .i64 nn) := by simp [World.cell?, HD.out.op, opC]
  have g6 : w3.cell? ⟨w.heap.size, 6, none⟩ = some (.int .u64 til) := by simp [World.cell?, HD.out.op, opC]
  have g7 : w3.cell? ⟨w.heap.size, 7, none⟩ = some (.int .i64 sn) := by simp [World.cell?, HD.out.op, opC]
  have g8 : w3.cell? ⟨w.heap.size, 8, none⟩ = some (.slice da dt.length dc) := by simp [World.cell?, HD.out.op, opC]
  go_wp2_with fail
  (with_reducible refine HC.out.mono ?_)
  rintro e w4 ⟨o4, ⟨v4, rfl, da4, la4, dc4, lc4, rfl, k1, k2, k3, k4⟩, hs4, hS4⟩
  have HD4 := Lib.hid (HD.out.turn hs4 hS4)
  have HK4 := Lib.hid (And.intro k1 (And.intro k2 (And.intro k3 k4)))
  clear k1 k2 k3 k4 HC hs4 hS4
  go_wp2_with (refine wpList_store_rep (by rfl) 36 _ _ (by rfl) (w.heap.size + 1) (reC (rr.1) da4 la4 dc4 lc4) (by rfl) (by rfl) _ HD4.out.re repSize rfl (reC_one _ _ _ _ _) ?_; intro w5 hs5; have HS5 := Lib.hid hs5; clear hs5)
  exact ret_rep rfl rfl rfl HS5.out.1 (by rw [HSD.out]; exact HD4.out.fin HS5.out HK4.out.1 HK4.out.2.1 HK4.out.2.2.1 HK4.out.2.2.2)
set_option maxRecDepth 100000 in
set_option maxHeartbeats 8000000 in
theorem sdo_k6 {S : Nat → Prop} (hS : StateO o i j k w p M) (hM : Marks W o w) (hk : Mk5 i j k l n) (cc : Int) (hok : StOk cc M) (hcc : cc ≤ 1000000000) (pa to_ : List UInt8) (fd at_ nn til sn : Int) (dt : List UInt8) (hx : OpOk ⟨6, pa, to_, fd, at_, nn, til, sn, dt⟩) (da : Option Addr) (dc : Nat) (hda : RowAt S w da dt.length (dt.map bv)) (m : Int) (hm : w.cell? ⟨0, 0, none⟩ = some (.int .i64 m)) (hp : (pathsO ⟨6, pa, to_, fd, at_, nn, til, sn, dt⟩).2 = 0) :
    Calls Tryz.prog 12 #[ptr p, .agg (opC ⟨6, pa, to_, fd, at_, nn, til, sn, dt⟩ da dc)] w (DoRet o i j k l n w p (sdoM M ⟨6, pa, to_, fd, at_, nn, til, sn, dt⟩)) := by
  have hps : pathsO ⟨6, pa, to_, fd, at_, nn, til, sn, dt⟩ = ([], 0) := rfl
  have hsd : sdoM M ⟨6, pa, to_, fd, at_, nn, til, sn, dt⟩ = sdoP M ⟨6, pa, to_, fd, at_, nn, til, sn, dt⟩ ([]) ([]) := by unfold sdoM; rw [hps]; rfl
  obtain ⟨o1, hd2⟩ := DoAt.start hk hS hM ⟨6, pa, to_, fd, at_, nn, til, sn, dt⟩ da dc
  have hb2 : Below w.heap.size w ((w.alloc (.cells (opC ⟨6, pa, to_, fd, at_, nn, til, sn, dt⟩ da dc) 28)).alloc (.cells (reC (noM 0) none none 0 0) 36)) := (wall w _).trans ((wall _ _).mono (by simp))
  obtain ⟨w2, hw2⟩ : ∃ w2, w2 = (w.alloc (.cells (opC ⟨6, pa, to_, fd, at_, nn, til, sn, dt⟩ da dc) 28)).alloc (.cells (reC (noM 0) none none 0 0) 36) := ⟨_, rfl⟩
  rw [← hw2] at hd2 hb2
  have hm2 : w2.cell? ⟨0, 0, none⟩ = some (.int .i64 m) := (hb2.cell (p := ⟨0, 0, none⟩) (World.block_lt_of_cell? w _ hm)).trans hm
  have hpc := paths_any p w2 ⟨6, pa, to_, fd, at_, nn, til, sn, dt⟩ da dc hx m hm2
  rw [hps] at hpc
  have HPC : Hid (Calls Tryz.prog 36 #[ptr p, .agg (opC ⟨6, pa, to_, fd, at_, nn, til, sn, dt⟩ da dc)] ((w.alloc (.cells (opC ⟨6, pa, to_, fd, at_, nn, til, sn, dt⟩ da dc) 28)).alloc (.cells (reC (noM 0) none none 0 0) 36)) (PathsRet w2 ([], 0))) := by rw [← hw2]; exact Lib.hid hpc
  unfold opC reC noM at HPC
  dsimp only [List.length_nil] at HPC
  have HSD := Lib.hid hsd
  have HOK := Lib.hid hok
  have HX := Lib.hid hx
  have HDA := Lib.hid (hda.below hb2 (Nat.le_refl _))
  have HD2 := Lib.hid hd2
  have HK := Lib.hid hk
  clear hS hM hk hok hx hda hm hp hps hsd hd2 hb2 hm2 hpc hw2
  unfold opC
  go_enter Tryz.func12, Tryz.ntmps12
  go_wp2_with fail
  (with_reducible refine HPC.out.mono ?_)
  clear HPC
  intro e w3 hpr
  obtain ⟨a3, c3, rfl, hb3⟩ := hpr.zero
  clear hpr
  have HD := Lib.hid (HD2.out.grow hb3)
  have HB3 := Lib.hid hb3
  have HDA3 := Lib.hid (HDA.out.below hb3 (Nat.le_refl _))
  have g0 : w3.cell? ⟨w.heap.size, 0, none⟩ = some (.int .i64 6) := by simp [World.cell?, HD.out.op, opC]
  clear hb3 HD2 HDA
  have hsd : sdoM M ⟨6, pa, to_, fd, at_, nn, til, sn, dt⟩ = ofEr (scloseM M ⟨6, pa, to_, fd, at_, nn, til, sn, dt⟩) := HSD.out
  replace HSD := Lib.hid hsd
  clear hsd
  obtain ⟨rr, hrr⟩ : ∃ rr, rr = scloseM M ⟨6, pa, to_, fd, at_, nn, til, sn, dt⟩ := ⟨_, rfl⟩
  have HC := Lib.hid (sclose_any HD.out.st HD.out.marks HD.out.mm.mm ⟨6, pa, to_, fd, at_, nn, til, sn, dt⟩ HX.out (fun q f hf => okInt (by have := HOK.out.fd q f hf; have := this.1; omega) (by have := HOK.out.fd q f hf; have := this.2.1; omega)) da dc)
  unfold opC at HC
  rw [← hrr] at HC HSD
  unfold ofEr at HSD
  clear hrr
  have g1 : w3.cell? ⟨w.heap.size, 1, none⟩ = some (.string (strOf pa)) := by simp [World.cell?, HD.out.op, opC]
  have g2 : w3.cell? ⟨w.heap.size, 2, none⟩ = some (.string (strOf to_)) := by simp [World.cell?, HD.out.op, opC]
  have g3 : w3.cell? ⟨w.heap.size, 3, none⟩ = some (.int .i64 fd) := by simp [World.cell?, HD.out.op, opC]
  have g4 : w3.cell? ⟨w.heap.size, 4, none⟩ = some (.int .i64 at_) := by simp [World.cell?, HD.out.op, opC]
  have g5 : w3.cell? ⟨w.heap.size, 5, none⟩ = some (.int .i64 nn) := by simp [World.cell?, HD.out.op, opC]
  have g6 : w3.cell? ⟨w.heap.size, 6, none⟩ = some (.int .u64 til) := by simp [World.cell?, HD.out.op, opC]
  have g7 : w3.cell? ⟨w.heap.size, 7, none⟩ = some (.int .i64 sn) := by simp [World.cell?, HD.out.op, opC]
  have g8 : w3.cell? ⟨w.heap.size, 8, none⟩ = some (.slice da dt.length dc) := by simp [World.cell?, HD.out.op, opC]
  go_wp2_with fail
  (with_reducible refine HC.out.mono ?_)
  rintro e w4 ⟨rfl, o4, hs4, hS4⟩
  have HD4 := Lib.hid (HD.out.turn hs4 hS4)
  clear hs4 hS4 HC
  go_wp2_with fail
  (with_reducible refine (no_any _ _).mono ?_)
  rintro e w9 ⟨rfl, hb9⟩
  unfold noV
  have HD9 := Lib.hid (HD4.out.grow hb9)
  clear hb9
  go_wp2_with (refine wpList_store_rep (by rfl) 36 _ _ (by rfl) (w.heap.size + 1) (reC (noM (rr.1)) none none 0 0) (by rfl) (by rfl) _ HD9.out.re repSize rfl (reC_one _ _ _ _ _) ?_; intro w5 hs5; have HS5 := Lib.hid hs5; clear hs5)
  exact ret_rep rfl rfl rfl HS5.out.1 (by rw [HSD.out]; exact HD9.out.fin0 HS5.out rfl rfl)
set_option maxRecDepth 100000 in
set_option maxHeartbeats 8000000 in
theorem sdo_k7 {S : Nat → Prop} (hS : StateO o i j k w p M) (hM : Marks W o w) (hk : Mk5 i j k l n) (cc : Int) (hok : StOk cc M) (hcc : cc ≤ 1000000000) (pa to_ : List UInt8) (fd at_ nn til sn : Int) (dt : List UInt8) (hx : OpOk ⟨7, pa, to_, fd, at_, nn, til, sn, dt⟩) (da : Option Addr) (dc : Nat) (hda : RowAt S w da dt.length (dt.map bv)) (m : Int) (hm : w.cell? ⟨0, 0, none⟩ = some (.int .i64 m)) (hp : (pathsO ⟨7, pa, to_, fd, at_, nn, til, sn, dt⟩).2 = 0) :
    Calls Tryz.prog 12 #[ptr p, .agg (opC ⟨7, pa, to_, fd, at_, nn, til, sn, dt⟩ da dc)] w (DoRet o i j k l n w p (sdoM M ⟨7, pa, to_, fd, at_, nn, til, sn, dt⟩)) := by
  obtain ⟨hps0, hf0, hf1⟩ := splits_two (a := pa) (b := to_) hp
  have hps : pathsO ⟨7, pa, to_, fd, at_, nn, til, sn, dt⟩ = ([(pathSplit pa).1, (pathSplit to_).1], 0) := hps0
  have hsd : sdoM M ⟨7, pa, to_, fd, at_, nn, til, sn, dt⟩ = sdoP M ⟨7, pa, to_, fd, at_, nn, til, sn, dt⟩ ((pathSplit pa).1) ((pathSplit to_).1) := by unfold sdoM; rw [hps]; rfl
  have h80 := split_few hf0
  have h81 := split_few hf1
  obtain ⟨q0, hq0⟩ : ∃ q0, q0 = (pathSplit pa).1 := ⟨_, rfl⟩
  rw [← hq0] at hps hsd h80
  obtain ⟨q1, hq1⟩ : ∃ q1, q1 = (pathSplit to_).1 := ⟨_, rfl⟩
  rw [← hq1] at hps hsd h81
  obtain ⟨o1, hd2⟩ := DoAt.start hk hS hM ⟨7, pa, to_, fd, at_, nn, til, sn, dt⟩ da dc
  have hb2 : Below w.heap.size w ((w.alloc (.cells (opC ⟨7, pa, to_, fd, at_, nn, til, sn, dt⟩ da dc) 28)).alloc (.cells (reC (noM 0) none none 0 0) 36)) := (wall w _).trans ((wall _ _).mono (by simp))
  obtain ⟨w2, hw2⟩ : ∃ w2, w2 = (w.alloc (.cells (opC ⟨7, pa, to_, fd, at_, nn, til, sn, dt⟩ da dc) 28)).alloc (.cells (reC (noM 0) none none 0 0) 36) := ⟨_, rfl⟩
  rw [← hw2] at hd2 hb2
  have hm2 : w2.cell? ⟨0, 0, none⟩ = some (.int .i64 m) := (hb2.cell (p := ⟨0, 0, none⟩) (World.block_lt_of_cell? w _ hm)).trans hm
  have hpc := paths_any p w2 ⟨7, pa, to_, fd, at_, nn, til, sn, dt⟩ da dc hx m hm2
  rw [hps] at hpc
  have HPC : Hid (Calls Tryz.prog 36 #[ptr p, .agg (opC ⟨7, pa, to_, fd, at_, nn, til, sn, dt⟩ da dc)] ((w.alloc (.cells (opC ⟨7, pa, to_, fd, at_, nn, til, sn, dt⟩ da dc) 28)).alloc (.cells (reC (noM 0) none none 0 0) 36)) (PathsRet w2 ([q0, q1], 0))) := by rw [← hw2]; exact Lib.hid hpc
  unfold opC reC noM at HPC
  dsimp only [List.length_nil] at HPC
  have HSD := Lib.hid hsd
  have HOK := Lib.hid hok
  have HX := Lib.hid hx
  have HDA := Lib.hid (hda.below hb2 (Nat.le_refl _))
  have HD2 := Lib.hid hd2
  have HK := Lib.hid hk
  clear hS hM hk hok hx hda hm hp hps hsd hd2 hb2 hm2 hpc hw2 hps0 hf0 hf1 hq0 hq1
  unfold opC
  go_enter Tryz.func12, Tryz.ntmps12
  go_wp2_with fail
  (with_reducible refine HPC.out.mono ?_)
  clear HPC
  intro e w3 hpr
  obtain ⟨b, off, c3, a0, c0, a1, c1, rfl, hb0, hbw, hn0, hn1, hb3⟩ := hpr.two
  clear hpr
  have HD := Lib.hid (HD2.out.grow hb3)
  have HB3 := Lib.hid hb3
  have HBF : Hid (o1 b = 0 ∧ b < w3.heap.size) := ⟨Decidable.byContradiction fun h0 => by have := (HD2.out.marks.new b h0).2; omega, hbw⟩
  have hc0 := hn0.cell
  have HN0 := Lib.hid hn0
  clear hn0
  have hc1 := hn1.cell
  have HN1 := Lib.hid hn1
  clear hn1
  have HDA3 := Lib.hid (HDA.out.below hb3 (Nat.le_refl _))
  have g0 : w3.cell? ⟨w.heap.size, 0, none⟩ = some (.int .i64 7) := by simp [World.cell?, HD.out.op, opC]
  clear hb3 HD2 HDA
  have HDD := Lib.hid (HD.out.grow (Below.refl _ _).drew)
  have hMd := HDD.out.marks
  have HST0 := Lib.hid (HN0.out.strs.below (Below.refl _ _).drew (Nat.le_refl _))
  have HST1 := Lib.hid (HN1.out.strs.below (Below.refl _ _).drew (Nat.le_refl _))
  obtain ⟨t, z0, hT3, htr⟩ := HDD.out.callT
  have z0' : w3.cell? ⟨p, 0, none⟩ = some (ptr t) := z0
  have HTR := Lib.hid htr
  have hsd : sdoM M ⟨7, pa, to_, fd, at_, nn, til, sn, dt⟩ = (noM (linkM M.t q0 q1).1, M.tr (linkM M.t q0 q1).2) := HSD.out
  replace HSD := Lib.hid hsd
  clear hsd
  have HC := Lib.hid (om_link hT3 hMd HK.out.mm.ne.2.1 HOK.out.t.1 a0 q0.length c0 q0 a1 q1.length c1 q1 HST0.out HST1.out HN1.out.cap (by omega))
  obtain ⟨rr, hrr⟩ : ∃ rr, rr = linkM M.t q0 q1 := ⟨_, rfl⟩
  rw [← hrr] at HC HSD
  clear hrr htr hT3 hMd z0
  go_wp2_with fail
  refine wp_region_noPanic ?_
  refine wp_region_L (last := 12) (S := (fun w' => w'.cell? ⟨p, 0, none⟩ = some (ptr t) ∧ w'.cell? ⟨b, off, none⟩ = some (.slice a0 q0.length c0) ∧ w'.cell? ⟨b, off + 1, none⟩ = some (.slice a1 q1.length c1))) (by kernel_rfl) ?_ (fun hS => ?_)
  · exact ⟨z0', hc0, hc1⟩
  refine tkL 0 (hS := hS) (h := ?_)
  refine tkL 1 (hS := hS) (h := ?_)
  refine tkL 2 (hS := hS) (h := ?_)
  refine tkL 3 (hS := hS) (h := ?_)
  refine tkL 4 (hS := hS) (h := ?_)
  refine tkL 5 (hS := hS) (h := ?_)
  refine tkL 6 (hS := hS) (h := ?_)
  refine tkL 7 (hS := hS) (h := ?_)
  refine tkL 8 (hS := hS) (h := ?_)
  refine tkL 9 (hS := hS) (h := ?_)
  refine rdL 10 (h := fun K hK => ?_)
  go_simp
  (with_reducible refine HC.out.mono ?_)
  rintro e w4 ⟨rfl, o4, hs4, hT4⟩
  obtain ⟨hd4, hp4⟩ := HTR.out _ _ _ hs4 hT4
  have HD4 := Lib.hid hd4
  have hb4 : w4.heap[b]? = w3.heap[b]? := HDD.out.stays (hs4.mono fun m hm => .inr (.inl hm)) HBF.out
  have hp4' : w4.heap[p]? = w3.heap[p]? := hp4
  clear hd4 hs4 hT4 hp4 HC
  have HS4 : Hid ((fun w' => w'.cell? ⟨p, 0, none⟩ = some (ptr t) ∧ w'.cell? ⟨b, off, none⟩ = some (.slice a0 q0.length c0) ∧ w'.cell? ⟨b, off + 1, none⟩ = some (.slice a1 q1.length c1)) w4) := ⟨(World.cell?_of_block hp4').trans z0', (World.cell?_of_block hb4).trans hc0, (World.cell?_of_block hb4).trans hc1⟩
  clear hb4 hp4'
  go_wp2_with fail
  refine hK.out _ _ (fun _ => HS4.out) (fun hS => ?_)
  replace hS := hS (by decide)
  clear hK K
  try simp only [Act.put, List.setIfInBounds_toArray, List.set_cons_zero, List.set_cons_succ]
  refine rdL 11 (h := fun K hK => ?_)
  go_simp
  (with_reducible refine (no_any _ _).mono ?_)
  rintro e w9 ⟨rfl, hb9⟩
  unfold noV
  have HD9 := Lib.hid (HD4.out.grow hb9)
  have HS9 : Hid ((fun w' => w'.cell? ⟨p, 0, none⟩ = some (ptr t) ∧ w'.cell? ⟨b, off, none⟩ = some (.slice a0 q0.length c0) ∧ w'.cell? ⟨b, off + 1, none⟩ = some (.slice a1 q1.length c1)) w9) := ⟨(hb9.cell (World.block_lt_of_cell? w4 _ HS4.out.1)).trans HS4.out.1, (hb9.cell (World.block_lt_of_cell? w4 _ HS4.out.2.1)).trans HS4.out.2.1, (hb9.cell (World.block_lt_of_cell? w4 _ HS4.out.2.2)).trans HS4.out.2.2⟩
  clear hb9
  go_wp2_with fail
  refine hK.out _ _ (fun _ => HS9.out) (fun hS => ?_)
  replace hS := hS (by decide)
  clear hK K
  try simp only [Act.put, List.setIfInBounds_toArray, List.set_cons_zero, List.set_cons_succ]
  refine wpAnyL_ready (rs := [12]) (by kernel_rfl) (by simp) ?_
  refine AllReadyL.cons (o := ?o1) ?ho1 (fun K hK => ?_) AllReadyL.nil
  case ho1 => simp only [List.getElem?_toArray, List.getElem?_cons_succ, List.getElem?_cons_zero]; rfl
  refine step_store_rep rfl 36 _ _ rfl (w.heap.size + 1) (reC (noM (rr.1)) none none 0 0) rfl rfl _ HD9.out.re repSize rfl (reC_one _ _ _ _ _) ?_
  intro w5 hs5
  have HS5 := Lib.hid hs5
  clear hs5
  refine hK.out _ _ (fun h => absurd rfl h) (fun hS => ?_)
  clear hS hK K
  try simp only [Act.put, List.setIfInBounds_toArray, List.set_cons_zero, List.set_cons_succ]
  refine wpAnyL_done (by kernel_rfl) ?_ _
  refine NoPanic.normal ?_
  go_wp2_with fail
  exact ret_rep rfl rfl rfl HS5.out.1 (by rw [HSD.out]; exact HD9.out.fin0 HS5.out rfl rfl)
set_option maxRecDepth 100000 in
set_option maxHeartbeats 8000000 in
theorem sdo_k8 {S : Nat → Prop} (hS : StateO o i j k w p M) (hM : Marks W o w) (hk : Mk5 i j k l n) (cc : Int) (hok : StOk cc M) (hcc : cc ≤ 1000000000) (pa to_ : List UInt8) (fd at_ nn til sn : Int) (dt : List UInt8) (hx : OpOk ⟨8, pa, to_, fd, at_, nn, til, sn, dt⟩) (da : Option Addr) (dc : Nat) (hda : RowAt S w da dt.length (dt.map bv)) (m : Int) (hm : w.cell? ⟨0, 0, none⟩ = some (.int .i64 m)) (hp : (pathsO ⟨8, pa, to_, fd, at_, nn, til, sn, dt⟩).2 = 0) :
    Calls Tryz.prog 12 #[ptr p, .agg (opC ⟨8, pa, to_, fd, at_, nn, til, sn, dt⟩ da dc)] w (DoRet o i j k l n w p (sdoM M ⟨8, pa, to_, fd, at_, nn, til, sn, dt⟩)) := by
  obtain ⟨hps0, hf0⟩ := splits_one (a := pa) hp
  have hps : pathsO ⟨8, pa, to_, fd, at_, nn, til, sn, dt⟩ = ([(pathSplit pa).1], 0) := hps0
  have hsd : sdoM M ⟨8, pa, to_, fd, at_, nn, til, sn, dt⟩ = sdoP M ⟨8, pa, to_, fd, at_, nn, til, sn, dt⟩ ((pathSplit pa).1) ([]) := by unfold sdoM; rw [hps]; rfl
  have h80 := split_few hf0
  obtain ⟨q0, hq0⟩ : ∃ q0, q0 = (pathSplit pa).1 := ⟨_, rfl⟩
  rw [← hq0] at hps hsd h80
  obtain ⟨o1, hd2⟩ := DoAt.start hk hS hM ⟨8, pa, to_, fd, at_, nn, til, sn, dt⟩ da dc
  have hb2 : Below w.heap.size w ((w.alloc (.cells (opC ⟨8, pa, to_, fd, at_, nn, til, sn, dt⟩ da dc) 28)).alloc (.cells (reC (noM 0) none none 0 0) 36)) := (wall w _).trans ((wall _ _).mono (by simp))
  obtain ⟨w2, hw2⟩ : ∃ w2, w2 = (w.alloc (.cells (opC ⟨8, pa, to_, fd, at_, nn, til, sn, dt⟩ da dc) 28)).alloc (.cells (reC (noM 0) none none 0 0) 36) := ⟨_, rfl⟩
  rw [← hw2] at hd2 hb2
  have hm2 : w2.cell? ⟨0, 0, none⟩ = some (.int .i64 m) := (hb2.cell (p := ⟨0, 0, none⟩) (World.block_lt_of_cell? w _ hm)).trans hm
  have hpc := paths_any p w2 ⟨8, pa, to_, fd, at_, nn, til, sn, dt⟩ da dc hx m hm2
  rw [hps] at hpc
  have HPC : Hid (Calls Tryz.prog 36 #[ptr p, .agg (opC ⟨8, pa, to_, fd, at_, nn, til, sn, dt⟩ da dc)] ((w.alloc (.cells (opC ⟨8, pa, to_, fd, at_, nn, til, sn, dt⟩ da dc) 28)).alloc (.cells (reC (noM 0) none none 0 0) 36)) (PathsRet w2 ([q0], 0))) := by rw [← hw2]; exact Lib.hid hpc
  unfold opC reC noM at HPC
  dsimp only [List.length_nil] at HPC
  have HSD := Lib.hid hsd
  have HOK := Lib.hid hok
  have HX := Lib.hid hx
  have HDA := Lib.hid (hda.below hb2 (Nat.le_refl _))
  have HD2 := Lib.hid hd2
  have HK := Lib.hid hk
  clear hS hM hk hok hx hda hm hp hps hsd hd2 hb2 hm2 hpc hw2 hps0 hf0 hq0
  unfold opC
  go_enter Tryz.func12, Tryz.ntmps12
  go_wp2_with fail
  (with_reducible refine HPC.out.mono ?_)
  clear HPC
  intro e w3 hpr
  obtain ⟨b, off, c3, a0, c0, rfl, hb0, hbw, hn0, hb3⟩ := hpr.one
  clear hpr
  have HD := Lib.hid (HD2.out.grow hb3)
  have HB3 := Lib.hid hb3
  have HBF : Hid (o1 b = 0 ∧ b < w3.heap.size) := ⟨Decidable.byContradiction fun h0 => by have := (HD2.out.marks.new b h0).2; omega, hbw⟩
  have hc0 := hn0.cell
  have HN0 := Lib.hid hn0
  clear hn0
  have HDA3 := Lib.hid (HDA.out.below hb3 (Nat.le_refl _))
  have g0 : w3.cell? ⟨w.heap.size, 0, none⟩ = some (.int .i64 8) := by simp [World.cell?, HD.out.op, opC]
  clear hb3 HD2 HDA
  have hsd : sdoM M ⟨8, pa, to_, fd, at_, nn, til, sn, dt⟩ = ofEr (sunlinkM M q0) := HSD.out
  replace HSD := Lib.hid hsd
  clear hsd
  obtain ⟨rr, hrr⟩ : ∃ rr, rr = sunlinkM M q0 := ⟨_, rfl⟩
  have HC := Lib.hid (sunlink_any HD.out.st HD.out.marks HD.out.mm.mm HOK.out.t.1 a0 q0.length c0 q0 HN0.out.strs HN0.out.cap (by omega) (look_wf HOK.out.t.1 q0))
  rw [← hrr] at HC HSD
  unfold ofEr at HSD
  clear hrr
  go_wp2_with fail
  (with_reducible refine HC.out.mono ?_)
  rintro e w4 ⟨rfl, o4, hs4, hS4⟩
  have HD4 := Lib.hid (HD.out.turn hs4 hS4)
  clear hs4 hS4 HC
  go_wp2_with fail
  (with_reducible refine (no_any _ _).mono ?_)
  rintro e w9 ⟨rfl, hb9⟩
  unfold noV
  have HD9 := Lib.hid (HD4.out.grow hb9)
  clear hb9
  go_wp2_with (refine wpList_store_rep (by rfl) 36 _ _ (by rfl) (w.heap.size + 1) (reC (noM (rr.1)) none none 0 0) (by rfl) (by rfl) _ HD9.out.re repSize rfl (reC_one _ _ _ _ _) ?_; intro w5 hs5; have HS5 := Lib.hid hs5; clear hs5)
  exact ret_rep rfl rfl rfl HS5.out.1 (by rw [HSD.out]; exact HD9.out.fin0 HS5.out rfl rfl)
end
end Go.Proofs.YtmabllemjkcobaaGreatDoor
