/- permafrostkeep.Tame: the walk. -/
import Derived.Test.YtmabllemjkcobaaGreatDoorM42
namespace Go.Proofs.YtmabllemjkcobaaGreatDoor
open Go.ChangeShapes Go.WideShapes Go.ChangeAt Go.RowKit
set_option linter.unusedVariables false
set_option linter.unusedSimpArgs false

set_option maxRecDepth 100000 in
set_option maxHeartbeats 16000000 in
theorem tame_all {S : Nat → Prop} (w : World) (kd : Int) (pa to_ : List UInt8) (fd at_ nn til sn : Int) (dt : List UInt8) (hx : OpRaw ⟨kd, pa, to_, fd, at_, nn, til, sn, dt⟩) (da : Option Addr) (dc : Nat) (hdc : dt.length ≤ dc) (hda : RowAt S w da dt.length (dt.map bv)) :
    Calls Tryz.prog 10 #[.agg (opC ⟨kd, pa, to_, fd, at_, nn, til, sn, dt⟩ da dc)] w (TameRet S w ⟨kd, pa, to_, fd, at_, nn, til, sn, dt⟩ da) := by
  obtain ⟨w2, hw2⟩ : ∃ w2, w2 = (w.alloc (.cells (opC ⟨kd, pa, to_, fd, at_, nn, til, sn, dt⟩ da dc) 28)).alloc (.cells #[.int .i64 0, .string ⟨#[]⟩, .string ⟨#[]⟩, .int .i64 0, .int .i64 0, .int .i64 0, .int .u64 0, .int .i64 0, .slice none 0 0] 28) := ⟨_, rfl⟩
  have hb2 : Below w.heap.size w w2 := by rw [hw2]; exact ((Below.refl _ _).alloc (Nat.le_refl _) _).trans (((Below.refl _ _).alloc (Nat.le_refl _) _).mono (by simp))
  have hop : w2.heap[w.heap.size]? = some (.cells (opC ⟨kd, pa, to_, fd, at_, nn, til, sn, dt⟩ da dc) 28 (0, 0)) := by
    rw [hw2]
    exact (((Below.refl _ _).alloc (Nat.le_refl _) _).block _ (by simp)).trans (MapKept.heap_alloc w _).1
  have hre : w2.heap[w.heap.size + 1]? = some (.cells #[.int .i64 0, .string ⟨#[]⟩, .string ⟨#[]⟩, .int .i64 0, .int .i64 0, .int .i64 0, .int .u64 0, .int .i64 0, .slice none 0 0] 28 (0, 0)) := by
    rw [hw2]
    have := (MapKept.heap_alloc (w.alloc (.cells (opC ⟨kd, pa, to_, fd, at_, nn, til, sn, dt⟩ da dc) 28)) (.cells #[.int .i64 0, .string ⟨#[]⟩, .string ⟨#[]⟩, .int .i64 0, .int .i64 0, .int .i64 0, .int .u64 0, .int .i64 0, .slice none 0 0] 28)).1
    rw [World.size_alloc] at this
    exact this
  have HKP : Hid (∀ w3, Below w2.heap.size w2 w3 → (fun w' => w'.cell? ⟨w.heap.size, 0, none⟩ = some (.int .i64 kd) ∧ w'.cell? ⟨w.heap.size, 1, none⟩ = some (.string (strOf pa)) ∧ w'.cell? ⟨w.heap.size, 2, none⟩ = some (.string (strOf to_)) ∧ w'.cell? ⟨w.heap.size, 3, none⟩ = some (.int .i64 fd) ∧ w'.cell? ⟨w.heap.size, 4, none⟩ = some (.int .i64 at_) ∧ w'.cell? ⟨w.heap.size, 5, none⟩ = some (.int .i64 nn) ∧ w'.cell? ⟨w.heap.size, 6, none⟩ = some (.int .u64 til) ∧ w'.cell? ⟨w.heap.size, 7, none⟩ = some (.int .i64 sn) ∧ w'.cell? ⟨w.heap.size, 8, none⟩ = some (.slice da dt.length dc)) w3) := fun w3 hb => by
    have := (hb.block _ (Array.getElem?_eq_some_iff.1 hop).1).trans hop
    unfold opC at this
    refine ⟨?_, ?_, ?_, ?_, ?_, ?_, ?_, ?_, ?_⟩ <;> simp [World.cell?, this]
  have HX := Lib.hid hx
  have HRE := Lib.hid hre
  have HOP := Lib.hid hop
  have HB2 := Lib.hid hb2
  have HW2 := Lib.hid hw2
  have HDA := Lib.hid hda
  have HDC := Lib.hid hdc
  have HZ1 : Hid ((Lit.int .i64 (IntKind.i64.wrap (((strOf pa).size : Int) + at_.tmod 7))).wf = true) := i64_wrap_wf _
  have HZ2 : Hid ((Lit.int .i64 (IntKind.i64.wrap (((strOf to_).size : Int) + nn.tmod 7))).wf = true) := i64_wrap_wf _
  obtain ⟨d40, hd40⟩ : ∃ d40, d40 = dt.take 40 := ⟨_, rfl⟩
  have HD4 := Lib.hid hd40
  have HCUT : Hid (∀ w : World, Calls Tryz.prog 28 #[.slice da dt.length dc, .int .i64 40] w fun e w' => e = .returned (.slice da d40.length dc) ∧ w = w') := fun w => by
    have := cut_any da dt.length dc 40 hdc (by omega) hda.small w
    rw [show min dt.length 40 = d40.length by rw [hd40, List.length_take, Nat.min_comm]] at this
    exact this
  clear hx hre hb2 hop hda hdc hd40
  unfold opC at HW2
  unfold opC
  go_enter Tryz.func10, Tryz.ntmps10
  go_wp2_with fail
  rw [← HW2.out]
  clear HW2 hw2
  refine wp_region_noPanic ?_
  refine wp_region_L (last := 38) (S := (fun w' => w'.cell? ⟨w.heap.size, 0, none⟩ = some (.int .i64 kd) ∧ w'.cell? ⟨w.heap.size, 1, none⟩ = some (.string (strOf pa)) ∧ w'.cell? ⟨w.heap.size, 2, none⟩ = some (.string (strOf to_)) ∧ w'.cell? ⟨w.heap.size, 3, none⟩ = some (.int .i64 fd) ∧ w'.cell? ⟨w.heap.size, 4, none⟩ = some (.int .i64 at_) ∧ w'.cell? ⟨w.heap.size, 5, none⟩ = some (.int .i64 nn) ∧ w'.cell? ⟨w.heap.size, 6, none⟩ = some (.int .u64 til) ∧ w'.cell? ⟨w.heap.size, 7, none⟩ = some (.int .i64 sn) ∧ w'.cell? ⟨w.heap.size, 8, none⟩ = some (.slice da dt.length dc))) (by kernel_rfl) ?_ (fun hS => ?_)
  · exact HKP.out _ (Below.refl _ _).drew
  refine tkL 0 (hS := hS) (h := ?_)
  refine tkL 1 (hS := hS) (h := ?_)
  refine tkL 2 (hS := hS) (h := ?_)
  refine tkL 3 (hS := hS) (h := ?_)
  refine tkL 4 (hS := hS) (h := ?_)
  refine tkL 5 (hS := hS) (h := ?_)
  refine tkL 6 (hS := hS) (h := ?_)
  refine tkL 7 (hS := hS) (h := ?_)
  refine tkL 8 (hS := hS) (h := ?_)
  refine tkL 10 (hS := hS) (h := ?_)
  refine tkL 11 (hS := hS) (h := ?_)
  refine tkL 12 (hS := hS) (h := ?_)
  refine tkL 13 (hS := hS) (h := ?_)
  refine tkL 14 (hS := hS) (h := ?_)
  refine tkL 15 (hS := hS) (h := ?_)
  refine tkL 16 (hS := hS) (h := ?_)
  refine tkL 18 (hS := hS) (h := ?_)
  refine tkL 19 (hS := hS) (h := ?_)
  refine tkL 21 (hS := hS) (h := ?_)
  refine tkL 22 (hS := hS) (h := ?_)
  refine tkL 24 (hS := hS) (h := ?_)
  refine tkL 25 (hS := hS) (h := ?_)
  refine tkL 27 (hS := hS) (h := ?_)
  refine tkL 28 (hS := hS) (h := ?_)
  refine tkL 29 (hS := hS) (h := ?_)
  refine tkL 30 (hS := hS) (h := ?_)
  refine tkL 31 (hS := hS) (h := ?_)
  refine tkL 33 (hS := hS) (h := ?_)
  refine tkL 34 (hS := hS) (h := ?_)
  refine wpAnyL_ready (rs := [9, 37]) (by kernel_rfl) (by simp) ?_
  refine AllReadyL.cons (o := ?o1) ?ho1 (fun K hK => ?ca1) (AllReadyL.cons (o := ?o2) ?ho2 (fun K hK => ?cb1) AllReadyL.nil)
  case ho1 => simp only [List.getElem?_toArray, List.getElem?_cons_succ, List.getElem?_cons_zero]; rfl
  case ho2 => simp only [List.getElem?_toArray, List.getElem?_cons_succ, List.getElem?_cons_zero]; rfl
  go_simp
  (with_reducible refine (name_any _ HZ1.out w2.drew).mono ?_)
  rintro e x2 ⟨s1, hs2, rfl, hbx2⟩
  have HN1 := Lib.hid hs2
  have HBX2 : Hid (Below w2.heap.size w2 x2) := Lib.hid (Below.trans ((Below.refl w2.heap.size w2).drew) (hbx2.mono ((Below.refl w2.heap.size w2).drew).size))
  clear hs2 hbx2
  go_wp2_with fail
  refine hK.out _ _ (fun _ => HKP.out _ HBX2.out) (fun hS => ?_)
  replace hS := hS (by decide)
  clear hK K
  try simp only [Act.put, List.setIfInBounds_toArray, List.set_cons_zero, List.set_cons_succ]
  refine wpAnyL_ready (rs := [17, 37]) (by kernel_rfl) (by simp) ?_
  refine AllReadyL.cons (o := ?o3) ?ho3 (fun K hK => ?ca3) (AllReadyL.cons (o := ?o4) ?ho4 (fun K hK => ?cb3) AllReadyL.nil)
  case ho3 => simp only [List.getElem?_toArray, List.getElem?_cons_succ, List.getElem?_cons_zero]; rfl
  case ho4 => simp only [List.getElem?_toArray, List.getElem?_cons_succ, List.getElem?_cons_zero]; rfl
  go_simp
  (with_reducible refine (name_any _ HZ2.out x2).mono ?_)
  rintro e x4 ⟨s2, hs4, rfl, hbx4⟩
  have HN2 := Lib.hid hs4
  have HBX4 : Hid (Below w2.heap.size w2 x4) := Lib.hid (Below.trans (HBX2.out) (hbx4.mono (HBX2.out).size))
  clear hs4 hbx4
  go_wp2_with fail
  refine hK.out _ _ (fun _ => HKP.out _ HBX4.out) (fun hS => ?_)
  replace hS := hS (by decide)
  clear hK K
  try simp only [Act.put, List.setIfInBounds_toArray, List.set_cons_zero, List.set_cons_succ]
  refine wpAnyL_ready (rs := [20, 37]) (by kernel_rfl) (by simp) ?_
  refine AllReadyL.cons (o := ?o5) ?ho5 (fun K hK => ?ca5) (AllReadyL.cons (o := ?o6) ?ho6 (fun K hK => ?cb5) AllReadyL.nil)
  case ho5 => simp only [List.getElem?_toArray, List.getElem?_cons_succ, List.getElem?_cons_zero]; rfl
  case ho6 => simp only [List.getElem?_toArray, List.getElem?_cons_succ, List.getElem?_cons_zero]; rfl
  go_simp
  (with_reducible refine (within_any fd 0 3 x4 HX.out.wf (by omega) (by omega) (by omega)).mono ?_)
  rintro e _ ⟨rfl, rfl⟩
  go_wp2_with fail
  refine hK.out _ _ (fun _ => HKP.out _ (HBX4.out)) (fun hS => ?_)
  replace hS := hS (by decide)
  clear hK K
  try simp only [Act.put, List.setIfInBounds_toArray, List.set_cons_zero, List.set_cons_succ]
  refine wpAnyL_ready (rs := [23, 37]) (by kernel_rfl) (by simp) ?_
  refine AllReadyL.cons (o := ?o7) ?ho7 (fun K hK => ?ca7) (AllReadyL.cons (o := ?o8) ?ho8 (fun K hK => ?cb7) AllReadyL.nil)
  case ho7 => simp only [List.getElem?_toArray, List.getElem?_cons_succ, List.getElem?_cons_zero]; rfl
  case ho8 => simp only [List.getElem?_toArray, List.getElem?_cons_succ, List.getElem?_cons_zero]; rfl
  go_simp
  (with_reducible refine (within_any at_ 0 50 x4 HX.out.wa (by omega) (by omega) (by omega)).mono ?_)
  rintro e _ ⟨rfl, rfl⟩
  go_wp2_with fail
  refine hK.out _ _ (fun _ => HKP.out _ (HBX4.out)) (fun hS => ?_)
  replace hS := hS (by decide)
  clear hK K
  try simp only [Act.put, List.setIfInBounds_toArray, List.set_cons_zero, List.set_cons_succ]
  refine wpAnyL_ready (rs := [26, 37]) (by kernel_rfl) (by simp) ?_
  refine AllReadyL.cons (o := ?o9) ?ho9 (fun K hK => ?ca9) (AllReadyL.cons (o := ?o10) ?ho10 (fun K hK => ?cb9) AllReadyL.nil)
  case ho9 => simp only [List.getElem?_toArray, List.getElem?_cons_succ, List.getElem?_cons_zero]; rfl
  case ho10 => simp only [List.getElem?_toArray, List.getElem?_cons_succ, List.getElem?_cons_zero]; rfl
  go_simp
  (with_reducible refine (within_any nn 0 60 x4 HX.out.wn (by omega) (by omega) (by omega)).mono ?_)
  rintro e _ ⟨rfl, rfl⟩
  go_wp2_with fail
  refine hK.out _ _ (fun _ => HKP.out _ (HBX4.out)) (fun hS => ?_)
  replace hS := hS (by decide)
  clear hK K
  try simp only [Act.put, List.setIfInBounds_toArray, List.set_cons_zero, List.set_cons_succ]
  refine wpAnyL_ready (rs := [32, 37]) (by kernel_rfl) (by simp) ?_
  refine AllReadyL.cons (o := ?o11) ?ho11 (fun K hK => ?ca11) (AllReadyL.cons (o := ?o12) ?ho12 (fun K hK => ?cb11) AllReadyL.nil)
  case ho11 => simp only [List.getElem?_toArray, List.getElem?_cons_succ, List.getElem?_cons_zero]; rfl
  case ho12 => simp only [List.getElem?_toArray, List.getElem?_cons_succ, List.getElem?_cons_zero]; rfl
  go_simp
  (with_reducible refine (within_any sn 0 4 x4 HX.out.ws (by omega) (by omega) (by omega)).mono ?_)
  rintro e _ ⟨rfl, rfl⟩
  go_wp2_with fail
  refine hK.out _ _ (fun _ => HKP.out _ (HBX4.out)) (fun hS => ?_)
  replace hS := hS (by decide)
  clear hK K
  try simp only [Act.put, List.setIfInBounds_toArray, List.set_cons_zero, List.set_cons_succ]
  refine wpAnyL_ready (rs := [35, 37]) (by kernel_rfl) (by simp) ?_
  refine AllReadyL.cons (o := ?o13) ?ho13 (fun K hK => ?ca13) (AllReadyL.cons (o := ?o14) ?ho14 (fun K hK => ?cb13) AllReadyL.nil)
  case ho13 => simp only [List.getElem?_toArray, List.getElem?_cons_succ, List.getElem?_cons_zero]; rfl
  case ho14 => simp only [List.getElem?_toArray, List.getElem?_cons_succ, List.getElem?_cons_zero]; rfl
  go_simp
  (with_reducible refine (HCUT.out x4).mono ?_)
  rintro e _ ⟨rfl, rfl⟩
  go_wp2_with fail
  refine hK.out _ _ (fun _ => HKP.out _ (HBX4.out)) (fun hS => ?_)
  replace hS := hS (by decide)
  clear hK K
  try simp only [Act.put, List.setIfInBounds_toArray, List.set_cons_zero, List.set_cons_succ]
  refine tkL 36 (hS := hS) (h := ?_)
  refine wpAnyL_ready (rs := [37]) (by kernel_rfl) (by simp) ?_
  refine AllReadyL.cons (o := ?o15) ?ho15 (fun K hK => ?_) AllReadyL.nil
  case ho15 => simp only [List.getElem?_toArray, List.getElem?_cons_succ, List.getElem?_cons_zero]; rfl
  go_simp
  have HBX15 : Hid (Below w2.heap.size w2 (x4.alloc (.cells #[.int .i64 0, .string ⟨#[]⟩, .string ⟨#[]⟩, .int .i64 0, .int .i64 0, .int .i64 0, .int .u64 0, .int .i64 0, .slice none 0 0] 28))) := Lib.hid (Below.alloc (HBX4.out) (Below.size (HBX4.out)) _)
  have HAX15 : Hid ((x4.alloc (.cells #[.int .i64 0, .string ⟨#[]⟩, .string ⟨#[]⟩, .int .i64 0, .int .i64 0, .int .i64 0, .int .u64 0, .int .i64 0, .slice none 0 0] 28)).heap[x4.heap.size]? = some (.cells #[.int .i64 0, .string ⟨#[]⟩, .string ⟨#[]⟩, .int .i64 0, .int .i64 0, .int .i64 0, .int .u64 0, .int .i64 0, .slice none 0 0] 28 (0, 0)) ∧ w2.heap.size ≤ x4.heap.size) := Lib.hid ⟨(MapKept.heap_alloc _ _).1, Below.size (HBX4.out)⟩
  refine hK.out _ _ (fun _ => HKP.out _ HBX15.out) (fun hS => ?_)
  replace hS := hS (by decide)
  clear hK K
  try simp only [Act.put, List.setIfInBounds_toArray, List.set_cons_zero, List.set_cons_succ]
  refine wpAnyL_ready (rs := [38]) (by kernel_rfl) (by simp) ?_
  refine AllReadyL.cons (o := ?o16) ?ho16 (fun K hK => ?_) AllReadyL.nil
  case ho16 => simp only [List.getElem?_toArray, List.getElem?_cons_succ, List.getElem?_cons_zero]; rfl
  refine step_store_rep rfl 28 _ _ rfl _ (opC ⟨kd, s1, s2, withinI fd 0 3, withinI at_ 0 50, withinI nn 0 60, til.tmod 12, withinI sn 0 4, d40⟩ da dc) rfl rfl _ HAX15.out.1 opSize rfl (opC_one _ _ _) ?_
  intro w5 hs5
  have HMID := Lib.hid (TameMid.of HB2.out HOP.out HRE.out (HBX15.out) HAX15.out.2 hs5)
  clear hs5
  refine hK.out _ _ (fun h => absurd rfl h) (fun hS => ?_)
  clear hS hK K
  try simp only [Act.put, List.setIfInBounds_toArray, List.set_cons_zero, List.set_cons_succ]
  refine wpAnyL_done (by kernel_rfl) ?_ _
  refine NoPanic.normal ?_
  refine (show Hid _ from ?_).out
  rotate_left
  go_simp
  have HBX16 : Hid (Below w2.heap.size w2 (x4.alloc (.cells #[.int .i64 0, .string ⟨#[]⟩, .string ⟨#[]⟩, .int .i64 0, .int .i64 0, .int .i64 0, .int .u64 0, .int .i64 0, .slice none 0 0] 28))) := Lib.hid (Below.alloc (HBX4.out) (Below.size (HBX4.out)) _)
  have HAX16 : Hid ((x4.alloc (.cells #[.int .i64 0, .string ⟨#[]⟩, .string ⟨#[]⟩, .int .i64 0, .int .i64 0, .int .i64 0, .int .u64 0, .int .i64 0, .slice none 0 0] 28)).heap[x4.heap.size]? = some (.cells #[.int .i64 0, .string ⟨#[]⟩, .string ⟨#[]⟩, .int .i64 0, .int .i64 0, .int .i64 0, .int .u64 0, .int .i64 0, .slice none 0 0] 28 (0, 0)) ∧ w2.heap.size ≤ x4.heap.size) := Lib.hid ⟨(MapKept.heap_alloc _ _).1, Below.size (HBX4.out)⟩
  refine hK.out _ _ (fun _ => HKP.out _ HBX16.out) (fun hS => ?_)
  replace hS := hS (by decide)
  clear hK K
  try simp only [Act.put, List.setIfInBounds_toArray, List.set_cons_zero, List.set_cons_succ]
  refine rdL 35 (h := fun K hK => ?_)
  go_simp
  (with_reducible refine (HCUT.out (x4.alloc (.cells #[.int .i64 0, .string ⟨#[]⟩, .string ⟨#[]⟩, .int .i64 0, .int .i64 0, .int .i64 0, .int .u64 0, .int .i64 0, .slice none 0 0] 28))).mono ?_)
  rintro e _ ⟨rfl, rfl⟩
  go_wp2_with fail
  refine hK.out _ _ (fun _ => HKP.out _ (HBX16.out)) (fun hS => ?_)
  replace hS := hS (by decide)
  clear hK K
  try simp only [Act.put, List.setIfInBounds_toArray, List.set_cons_zero, List.set_cons_succ]
  refine tkL 36 (hS := hS) (h := ?_)
  refine wpAnyL_ready (rs := [38]) (by kernel_rfl) (by simp) ?_
  refine AllReadyL.cons (o := ?o17) ?ho17 (fun K hK => ?_) AllReadyL.nil
  case ho17 => simp only [List.getElem?_toArray, List.getElem?_cons_succ, List.getElem?_cons_zero]; rfl
  refine step_store_rep rfl 28 _ _ rfl _ (opC ⟨kd, s1, s2, withinI fd 0 3, withinI at_ 0 50, withinI nn 0 60, til.tmod 12, withinI sn 0 4, d40⟩ da dc) rfl rfl _ HAX16.out.1 opSize rfl (opC_one _ _ _) ?_
  intro w5 hs5
  have HMID := Lib.hid (TameMid.of HB2.out HOP.out HRE.out (HBX16.out) HAX16.out.2 hs5)
  clear hs5
  refine hK.out _ _ (fun h => absurd rfl h) (fun hS => ?_)
  clear hS hK K
  try simp only [Act.put, List.setIfInBounds_toArray, List.set_cons_zero, List.set_cons_succ]
  refine wpAnyL_done (by kernel_rfl) ?_ _
  refine NoPanic.normal ?_
  refine (show Hid _ from ?_).out
  rotate_left
  go_simp
  have HBX18 : Hid (Below w2.heap.size w2 (x4.alloc (.cells #[.int .i64 0, .string ⟨#[]⟩, .string ⟨#[]⟩, .int .i64 0, .int .i64 0, .int .i64 0, .int .u64 0, .int .i64 0, .slice none 0 0] 28))) := Lib.hid (Below.alloc (HBX4.out) (Below.size (HBX4.out)) _)
  have HAX18 : Hid ((x4.alloc (.cells #[.int .i64 0, .string ⟨#[]⟩, .string ⟨#[]⟩, .int .i64 0, .int .i64 0, .int .i64 0, .int .u64 0, .int .i64 0, .slice none 0 0] 28)).heap[x4.heap.size]? = some (.cells #[.int .i64 0, .string ⟨#[]⟩, .string ⟨#[]⟩, .int .i64 0, .int .i64 0, .int .i64 0, .int .u64 0, .int .i64 0, .slice none 0 0] 28 (0, 0)) ∧ w2.heap.size ≤ x4.heap.size) := Lib.hid ⟨(MapKept.heap_alloc _ _).1, Below.size (HBX4.out)⟩
  refine hK.out _ _ (fun _ => HKP.out _ HBX18.out) (fun hS => ?_)
  replace hS := hS (by decide)
  clear hK K
  try simp only [Act.put, List.setIfInBounds_toArray, List.set_cons_zero, List.set_cons_succ]
  refine rdL 32 (h := fun K hK => ?_)
  go_simp
  (with_reducible refine (within_any sn 0 4 (x4.alloc (.cells #[.int .i64 0, .string ⟨#[]⟩, .string ⟨#[]⟩, .int .i64 0, .int .i64 0, .int .i64 0, .int .u64 0, .int .i64 0, .slice none 0 0] 28)) HX.out.ws (by omega) (by omega) (by omega)).mono ?_)
  rintro e _ ⟨rfl, rfl⟩
  go_wp2_with fail
  refine hK.out _ _ (fun _ => HKP.out _ (HBX18.out)) (fun hS => ?_)
  replace hS := hS (by decide)
  clear hK K
  try simp only [Act.put, List.setIfInBounds_toArray, List.set_cons_zero, List.set_cons_succ]
  refine rdL 35 (h := fun K hK => ?_)
  go_simp
  (with_reducible refine (HCUT.out (x4.alloc (.cells #[.int .i64 0, .string ⟨#[]⟩, .string ⟨#[]⟩, .int .i64 0, .int .i64 0, .int .i64 0, .int .u64 0, .int .i64 0, .slice none 0 0] 28))).mono ?_)
  rintro e _ ⟨rfl, rfl⟩
  go_wp2_with fail
  refine hK.out _ _ (fun _ => HKP.out _ (HBX18.out)) (fun hS => ?_)
  replace hS := hS (by decide)
  clear hK K
  try simp only [Act.put, List.setIfInBounds_toArray, List.set_cons_zero, List.set_cons_succ]
  refine tkL 36 (hS := hS) (h := ?_)
  refine wpAnyL_ready (rs := [38]) (by kernel_rfl) (by simp) ?_
  refine AllReadyL.cons (o := ?o18) ?ho18 (fun K hK => ?_) AllReadyL.nil
  case ho18 => simp only [List.getElem?_toArray, List.getElem?_cons_succ, List.getElem?_cons_zero]; rfl
  refine step_store_rep rfl 28 _ _ rfl _ (opC ⟨kd, s1, s2, withinI fd 0 3, withinI at_ 0 50, withinI nn 0 60, til.tmod 12, withinI sn 0 4, d40⟩ da dc) rfl rfl _ HAX18.out.1 opSize rfl (opC_one _ _ _) ?_
  intro w5 hs5
  have HMID := Lib.hid (TameMid.of HB2.out HOP.out HRE.out (HBX18.out) HAX18.out.2 hs5)
  clear hs5
  refine hK.out _ _ (fun h => absurd rfl h) (fun hS => ?_)
  clear hS hK K
  try simp only [Act.put, List.setIfInBounds_toArray, List.set_cons_zero, List.set_cons_succ]
  refine wpAnyL_done (by kernel_rfl) ?_ _
  refine NoPanic.normal ?_
  refine (show Hid _ from ?_).out
  rotate_left
  go_simp
  have HBX21 : Hid (Below w2.heap.size w2 (x4.alloc (.cells #[.int .i64 0, .string ⟨#[]⟩, .string ⟨#[]⟩, .int .i64 0, .int .i64 0, .int .i64 0, .int .u64 0, .int .i64 0, .slice none 0 0] 28))) := Lib.hid (Below.alloc (HBX4.out) (Below.size (HBX4.out)) _)
  have HAX21 : Hid ((x4.alloc (.cells #[.int .i64 0, .string ⟨#[]⟩, .string ⟨#[]⟩, .int .i64 0, .int .i64 0, .int .i64 0, .int .u64 0, .int .i64 0, .slice none 0 0] 28)).heap[x4.heap.size]? = some (.cells #[.int .i64 0, .string ⟨#[]⟩, .string ⟨#[]⟩, .int .i64 0, .int .i64 0, .int .i64 0, .int .u64 0, .int .i64 0, .slice none 0 0] 28 (0, 0)) ∧ w2.heap.size ≤ x4.heap.size) := Lib.hid ⟨(MapKept.heap_alloc _ _).1, Below.size (HBX4.out)⟩
  refine hK.out _ _ (fun _ => HKP.out _ HBX21.out) (fun hS => ?_)
  replace hS := hS (by decide)
  clear hK K
  try simp only [Act.put, List.setIfInBounds_toArray, List.set_cons_zero, List.set_cons_succ]
  refine rdL 26 (h := fun K hK => ?_)
  go_simp
  (with_reducible refine (within_any nn 0 60 (x4.alloc (.cells #[.int .i64 0, .string ⟨#[]⟩, .string ⟨#[]⟩, .int .i64 0, .int .i64 0, .int .i64 0, .int .u64 0, .int .i64 0, .slice none 0 0] 28)) HX.out.wn (by omega) (by omega) (by omega)).mono ?_)
  rintro e _ ⟨rfl, rfl⟩
  go_wp2_with fail
  refine hK.out _ _ (fun _ => HKP.out _ (HBX21.out)) (fun hS => ?_)
  replace hS := hS (by decide)
  clear hK K
  try simp only [Act.put, List.setIfInBounds_toArray, List.set_cons_zero, List.set_cons_succ]
  refine rdL 32 (h := fun K hK => ?_)
  go_simp
  (with_reducible refine (within_any sn 0 4 (x4.alloc (.cells #[.int .i64 0, .string ⟨#[]⟩, .string ⟨#[]⟩, .int .i64 0, .int .i64 0, .int .i64 0, .int .u64 0, .int .i64 0, .slice none 0 0] 28)) HX.out.ws (by omega) (by omega) (by omega)).mono ?_)
  rintro e _ ⟨rfl, rfl⟩
  go_wp2_with fail
  refine hK.out _ _ (fun _ => HKP.out _ (HBX21.out)) (fun hS => ?_)
  replace hS := hS (by decide)
  clear hK K
  try simp only [Act.put, List.setIfInBounds_toArray, List.set_cons_zero, List.set_cons_succ]
  refine rdL 35 (h := fun K hK => ?_)
  go_simp
  (with_reducible refine (HCUT.out (x4.alloc (.cells #[.int .i64 0, .string ⟨#[]⟩, .string ⟨#[]⟩, .int .i64 0, .int .i64 0, .int .i64 0, .int .u64 0, .int .i64 0, .slice none 0 0] 28))).mono ?_)
  rintro e _ ⟨rfl, rfl⟩
  go_wp2_with fail
  refine hK.out _ _ (fun _ => HKP.out _ (HBX21.out)) (fun hS => ?_)
  replace hS := hS (by decide)
  clear hK K
  try simp only [Act.put, List.setIfInBounds_toArray, List.set_cons_zero, List.set_cons_succ]
  refine tkL 36 (hS := hS) (h := ?_)
  refine wpAnyL_ready (rs := [38]) (by kernel_rfl) (by simp) ?_
  refine AllReadyL.cons (o := ?o19) ?ho19 (fun K hK => ?_) AllReadyL.nil
  case ho19 => simp only [List.getElem?_toArray, List.getElem?_cons_succ, List.getElem?_cons_zero]; rfl
  refine step_store_rep rfl 28 _ _ rfl _ (opC ⟨kd, s1, s2, withinI fd 0 3, withinI at_ 0 50, withinI nn 0 60, til.tmod 12, withinI sn 0 4, d40⟩ da dc) rfl rfl _ HAX21.out.1 opSize rfl (opC_one _ _ _) ?_
  intro w5 hs5
  have HMID := Lib.hid (TameMid.of HB2.out HOP.out HRE.out (HBX21.out) HAX21.out.2 hs5)
  clear hs5
  refine hK.out _ _ (fun h => absurd rfl h) (fun hS => ?_)
  clear hS hK K
  try simp only [Act.put, List.setIfInBounds_toArray, List.set_cons_zero, List.set_cons_succ]
  refine wpAnyL_done (by kernel_rfl) ?_ _
  refine NoPanic.normal ?_
  refine (show Hid _ from ?_).out
  rotate_left
  go_simp
  have HBX25 : Hid (Below w2.heap.size w2 (x4.alloc (.cells #[.int .i64 0, .string ⟨#[]⟩, .string ⟨#[]⟩, .int .i64 0, .int .i64 0, .int .i64 0, .int .u64 0, .int .i64 0, .slice none 0 0] 28))) := Lib.hid (Below.alloc (HBX4.out) (Below.size (HBX4.out)) _)
  have HAX25 : Hid ((x4.alloc (.cells #[.int .i64 0, .string ⟨#[]⟩, .string ⟨#[]⟩, .int .i64 0, .int .i64 0, .int .i64 0, .int .u64 0, .int .i64 0, .slice none 0 0] 28)).heap[x4.heap.size]? = some (.cells #[.int .i64 0, .string ⟨#[]⟩, .string ⟨#[]⟩, .int .i64 0, .int .i64 0, .int .i64 0, .int .u64 0, .int .i64 0, .slice none 0 0] 28 (0, 0)) ∧ w2.heap.size ≤ x4.heap.size) := Lib.hid ⟨(MapKept.heap_alloc _ _).1, Below.size (HBX4.out)⟩
  refine hK.out _ _ (fun _ => HKP.out _ HBX25.out) (fun hS => ?_)
  replace hS := hS (by decide)
  clear hK K
  try simp only [Act.put, List.setIfInBounds_toArray, List.set_cons_zero, List.set_cons_succ]
  refine rdL 23 (h := fun K hK => ?_)
  go_simp
  (with_reducible refine (within_any at_ 0 50 (x4.alloc (.cells #[.int .i64 0, .string ⟨#[]⟩, .string ⟨#[]⟩, .int .i64 0, .int .i64 0, .int .i64 0, .int .u64 0, .int .i64 0, .slice none 0 0] 28)) HX.out.wa (by omega) (by omega) (by omega)).mono ?_)
  rintro e _ ⟨rfl, rfl⟩
  go_wp2_with fail
  refine hK.out _ _ (fun _ => HKP.out _ (HBX25.out)) (fun hS => ?_)
  replace hS := hS (by decide)
  clear hK K
  try simp only [Act.put, List.setIfInBounds_toArray, List.set_cons_zero, List.set_cons_succ]
  refine rdL 26 (h := fun K hK => ?_)
  go_simp
  (with_reducible refine (within_any nn 0 60 (x4.alloc (.cells #[.int .i64 0, .string ⟨#[]⟩, .string ⟨#[]⟩, .int .i64 0, .int .i64 0, .int .i64 0, .int .u64 0, .int .i64 0, .slice none 0 0] 28)) HX.out.wn (by omega) (by omega) (by omega)).mono ?_)
  rintro e _ ⟨rfl, rfl⟩
  go_wp2_with fail
  refine hK.out _ _ (fun _ => HKP.out _ (HBX25.out)) (fun hS => ?_)
  replace hS := hS (by decide)
  clear hK K
  try simp only [Act.put, List.setIfInBounds_toArray, List.set_cons_zero, List.set_cons_succ]
  refine rdL 32 (h := fun K hK => ?_)
  go_simp
  (with_reducible refine (within_any sn 0 4 (x4.alloc (.cells #[.int .i64 0, .string ⟨#[]⟩, .string ⟨#[]⟩, .int .i64 0, .int .i64 0, .int .i64 0, .int .u64 0, .int .i64 0, .slice none 0 0] 28)) HX.out.ws (by omega) (by omega) (by omega)).mono ?_)
  rintro e _ ⟨rfl, rfl⟩
  go_wp2_with fail
  refine hK.out _ _ (fun _ => HKP.out _ (HBX25.out)) (fun hS => ?_)
  replace hS := hS (by decide)
  clear hK K
  try simp only [Act.put, List.setIfInBounds_toArray, List.set_cons_zero, List.set_cons_succ]
  refine rdL 35 (h := fun K hK => ?_)
  go_simp
  (with_reducible refine (HCUT.out (x4.alloc (.cells #[.int .i64 0, .string ⟨#[]⟩, .string ⟨#[]⟩, .int .i64 0, .int .i64 0, .int .i64 0, .int .u64 0, .int .i64 0, .slice none 0 0] 28))).mono ?_)
  rintro e _ ⟨rfl, rfl⟩
  go_wp2_with fail
  refine hK.out _ _ (fun _ => HKP.out _ (HBX25.out)) (fun hS => ?_)
  replace hS := hS (by decide)
  clear hK K
  try simp only [Act.put, List.setIfInBounds_toArray, List.set_cons_zero, List.set_cons_succ]
  refine tkL 36 (hS := hS) (h := ?_)
  refine wpAnyL_ready (rs := [38]) (by kernel_rfl) (by simp) ?_
  refine AllReadyL.cons (o := ?o20) ?ho20 (fun K hK => ?_) AllReadyL.nil
  case ho20 => simp only [List.getElem?_toArray, List.getElem?_cons_succ, List.getElem?_cons_zero]; rfl
  refine step_store_rep rfl 28 _ _ rfl _ (opC ⟨kd, s1, s2, withinI fd 0 3, withinI at_ 0 50, withinI nn 0 60, til.tmod 12, withinI sn 0 4, d40⟩ da dc) rfl rfl _ HAX25.out.1 opSize rfl (opC_one _ _ _) ?_
  intro w5 hs5
  have HMID := Lib.hid (TameMid.of HB2.out HOP.out HRE.out (HBX25.out) HAX25.out.2 hs5)
  clear hs5
  refine hK.out _ _ (fun h => absurd rfl h) (fun hS => ?_)
  clear hS hK K
  try simp only [Act.put, List.setIfInBounds_toArray, List.set_cons_zero, List.set_cons_succ]
  refine wpAnyL_done (by kernel_rfl) ?_ _
  refine NoPanic.normal ?_
  refine (show Hid _ from ?_).out
  rotate_left
  go_simp
  have HBX30 : Hid (Below w2.heap.size w2 (x4.alloc (.cells #[.int .i64 0, .string ⟨#[]⟩, .string ⟨#[]⟩, .int .i64 0, .int .i64 0, .int .i64 0, .int .u64 0, .int .i64 0, .slice none 0 0] 28))) := Lib.hid (Below.alloc (HBX4.out) (Below.size (HBX4.out)) _)
  have HAX30 : Hid ((x4.alloc (.cells #[.int .i64 0, .string ⟨#[]⟩, .string ⟨#[]⟩, .int .i64 0, .int .i64 0, .int .i64 0, .int .u64 0, .int .i64 0, .slice none 0 0] 28)).heap[x4.heap.size]? = some (.cells #[.int .i64 0, .string ⟨#[]⟩, .string ⟨#[]⟩, .int .i64 0, .int .i64 0, .int .i64 0, .int .u64 0, .int .i64 0, .slice none 0 0] 28 (0, 0)) ∧ w2.heap.size ≤ x4.heap.size) := Lib.hid ⟨(MapKept.heap_alloc _ _).1, Below.size (HBX4.out)⟩
  refine hK.out _ _ (fun _ => HKP.out _ HBX30.out) (fun hS => ?_)
  replace hS := hS (by decide)
  clear hK K
  try simp only [Act.put, List.setIfInBounds_toArray, List.set_cons_zero, List.set_cons_succ]
  refine rdL 20 (h := fun K hK => ?_)
  go_simp
  (with_reducible refine (within_any fd 0 3 (x4.alloc (.cells #[.int .i64 0, .string ⟨#[]⟩, .string ⟨#[]⟩, .int .i64 0, .int .i64 0, .int .i64 0, .int .u64 0, .int .i64 0, .slice none 0 0] 28)) HX.out.wf (by omega) (by omega) (by omega)).mono ?_)
  rintro e _ ⟨rfl, rfl⟩
  go_wp2_with fail
  refine hK.out _ _ (fun _ => HKP.out _ (HBX30.out)) (fun hS => ?_)
  replace hS := hS (by decide)
  clear hK K
  try simp only [Act.put, List.setIfInBounds_toArray, List.set_cons_zero, List.set_cons_succ]
  refine rdL 23 (h := fun K hK => ?_)
  go_simp
  (with_reducible refine (within_any at_ 0 50 (x4.alloc (.cells #[.int .i64 0, .string ⟨#[]⟩, .string ⟨#[]⟩, .int .i64 0, .int .i64 0, .int .i64 0, .int .u64 0, .int .i64 0, .slice none 0 0] 28)) HX.out.wa (by omega) (by omega) (by omega)).mono ?_)
  rintro e _ ⟨rfl, rfl⟩
  go_wp2_with fail
  refine hK.out _ _ (fun _ => HKP.out _ (HBX30.out)) (fun hS => ?_)
  replace hS := hS (by decide)
  clear hK K
  try simp only [Act.put, List.setIfInBounds_toArray, List.set_cons_zero, List.set_cons_succ]
  refine rdL 26 (h := fun K hK => ?_)
  go_simp
  (with_reducible refine (within_any nn 0 60 (x4.alloc (.cells #[.int .i64 0, .string ⟨#[]⟩, .string ⟨#[]⟩, .int .i64 0, .int .i64 0, .int .i64 0, .int .u64 0, .int .i64 0, .slice none 0 0] 28)) HX.out.wn (by omega) (by omega) (by omega)).mono ?_)
  rintro e _ ⟨rfl, rfl⟩
  go_wp2_with fail
  refine hK.out _ _ (fun _ => HKP.out _ (HBX30.out)) (fun hS => ?_)
  replace hS := hS (by decide)
  clear hK K
  try simp only [Act.put, List.setIfInBounds_toArray, List.set_cons_zero, List.set_cons_succ]
  refine rdL 32 (h := fun K hK => ?_)
  go_simp
  (with_reducible refine (within_any sn 0 4 (x4.alloc (.cells #[.int .i64 0, .string ⟨#[]⟩, .string ⟨#[]⟩, .int .i64 0, .int .i64 0, .int .i64 0, .int .u64 0, .int .i64 0, .slice none 0 0] 28)) HX.out.ws (by omega) (by omega) (by omega)).mono ?_)
  rintro e _ ⟨rfl, rfl⟩
  go_wp2_with fail
  refine hK.out _ _ (fun _ => HKP.out _ (HBX30.out)) (fun hS => ?_)
  replace hS := hS (by decide)
  clear hK K
  try simp only [Act.put, List.setIfInBounds_toArray, List.set_cons_zero, List.set_cons_succ]
  refine rdL 35 (h := fun K hK => ?_)
  go_simp
  (with_reducible refine (HCUT.out (x4.alloc (.cells #[.int .i64 0, .string ⟨#[]⟩, .string ⟨#[]⟩, .int .i64 0, .int .i64 0, .int .i64 0, .int .u64 0, .int .i64 0, .slice none 0 0] 28))).mono ?_)
  rintro e _ ⟨rfl, rfl⟩
  go_wp2_with fail
  refine hK.out _ _ (fun _ => HKP.out _ (HBX30.out)) (fun hS => ?_)
  replace hS := hS (by decide)
  clear hK K
  try simp only [Act.put, List.setIfInBounds_toArray, List.set_cons_zero, List.set_cons_succ]
  refine tkL 36 (hS := hS) (h := ?_)
  refine wpAnyL_ready (rs := [38]) (by kernel_rfl) (by simp) ?_
  refine AllReadyL.cons (o := ?o21) ?ho21 (fun K hK => ?_) AllReadyL.nil
  case ho21 => simp only [List.getElem?_toArray, List.getElem?_cons_succ, List.getElem?_cons_zero]; rfl
  refine step_store_rep rfl 28 _ _ rfl _ (opC ⟨kd, s1, s2, withinI fd 0 3, withinI at_ 0 50, withinI nn 0 60, til.tmod 12, withinI sn 0 4, d40⟩ da dc) rfl rfl _ HAX30.out.1 opSize rfl (opC_one _ _ _) ?_
  intro w5 hs5
  have HMID := Lib.hid (TameMid.of HB2.out HOP.out HRE.out (HBX30.out) HAX30.out.2 hs5)
  clear hs5
  refine hK.out _ _ (fun h => absurd rfl h) (fun hS => ?_)
  clear hS hK K
  try simp only [Act.put, List.setIfInBounds_toArray, List.set_cons_zero, List.set_cons_succ]
  refine wpAnyL_done (by kernel_rfl) ?_ _
  refine NoPanic.normal ?_
  refine (show Hid _ from ?_).out
  rotate_left
  go_simp
  have HBX36 : Hid (Below w2.heap.size w2 (x2.alloc (.cells #[.int .i64 0, .string ⟨#[]⟩, .string ⟨#[]⟩, .int .i64 0, .int .i64 0, .int .i64 0, .int .u64 0, .int .i64 0, .slice none 0 0] 28))) := Lib.hid (Below.alloc (HBX2.out) (Below.size (HBX2.out)) _)
  have HAX36 : Hid ((x2.alloc (.cells #[.int .i64 0, .string ⟨#[]⟩, .string ⟨#[]⟩, .int .i64 0, .int .i64 0, .int .i64 0, .int .u64 0, .int .i64 0, .slice none 0 0] 28)).heap[x2.heap.size]? = some (.cells #[.int .i64 0, .string ⟨#[]⟩, .string ⟨#[]⟩, .int .i64 0, .int .i64 0, .int .i64 0, .int .u64 0, .int .i64 0, .slice none 0 0] 28 (0, 0)) ∧ w2.heap.size ≤ x2.heap.size) := Lib.hid ⟨(MapKept.heap_alloc _ _).1, Below.size (HBX2.out)⟩
  refine hK.out _ _ (fun _ => HKP.out _ HBX36.out) (fun hS => ?_)
  replace hS := hS (by decide)
  clear hK K
  try simp only [Act.put, List.setIfInBounds_toArray, List.set_cons_zero, List.set_cons_succ]
  refine rdL 17 (h := fun K hK => ?_)
  go_simp
  (with_reducible refine (name_any _ HZ2.out (x2.alloc (.cells #[.int .i64 0, .string ⟨#[]⟩, .string ⟨#[]⟩, .int .i64 0, .int .i64 0, .int .i64 0, .int .u64 0, .int .i64 0, .slice none 0 0] 28))).mono ?_)
  rintro e x37 ⟨s2, hs37, rfl, hbx37⟩
  have HN2 := Lib.hid hs37
  have HBX37 : Hid (Below w2.heap.size w2 x37) := Lib.hid (Below.trans (HBX36.out) (hbx37.mono (HBX36.out).size))
  have HAX37 : Hid (x37.heap[x2.heap.size]? = some (.cells #[.int .i64 0, .string ⟨#[]⟩, .string ⟨#[]⟩, .int .i64 0, .int .i64 0, .int .i64 0, .int .u64 0, .int .i64 0, .slice none 0 0] 28 (0, 0)) ∧ w2.heap.size ≤ x2.heap.size) := Lib.hid ⟨(hbx37.block _ (Array.getElem?_eq_some_iff.1 HAX36.out.1).1).trans HAX36.out.1, HAX36.out.2⟩
  clear hs37 hbx37
  go_wp2_with fail
  refine hK.out _ _ (fun _ => HKP.out _ HBX37.out) (fun hS => ?_)
  replace hS := hS (by decide)
  clear hK K
  try simp only [Act.put, List.setIfInBounds_toArray, List.set_cons_zero, List.set_cons_succ]
  refine rdL 20 (h := fun K hK => ?_)
  go_simp
  (with_reducible refine (within_any fd 0 3 x37 HX.out.wf (by omega) (by omega) (by omega)).mono ?_)
  rintro e _ ⟨rfl, rfl⟩
  go_wp2_with fail
  refine hK.out _ _ (fun _ => HKP.out _ (HBX37.out)) (fun hS => ?_)
  replace hS := hS (by decide)
  clear hK K
  try simp only [Act.put, List.setIfInBounds_toArray, List.set_cons_zero, List.set_cons_succ]
  refine rdL 23 (h := fun K hK => ?_)
  go_simp
  (with_reducible refine (within_any at_ 0 50 x37 HX.out.wa (by omega) (by omega) (by omega)).mono ?_)
  rintro e _ ⟨rfl, rfl⟩
  go_wp2_with fail
  refine hK.out _ _ (fun _ => HKP.out _ (HBX37.out)) (fun hS => ?_)
  replace hS := hS (by decide)
  clear hK K
  try simp only [Act.put, List.setIfInBounds_toArray, List.set_cons_zero, List.set_cons_succ]
  refine rdL 26 (h := fun K hK => ?_)
  go_simp
  (with_reducible refine (within_any nn 0 60 x37 HX.out.wn (by omega) (by omega) (by omega)).mono ?_)
  rintro e _ ⟨rfl, rfl⟩
  go_wp2_with fail
  refine hK.out _ _ (fun _ => HKP.out _ (HBX37.out)) (fun hS => ?_)
  replace hS := hS (by decide)
  clear hK K
  try simp only [Act.put, List.setIfInBounds_toArray, List.set_cons_zero, List.set_cons_succ]
  refine rdL 32 (h := fun K hK => ?_)
  go_simp
  (with_reducible refine (within_any sn 0 4 x37 HX.out.ws (by omega) (by omega) (by omega)).mono ?_)
  rintro e _ ⟨rfl, rfl⟩
  go_wp2_with fail
  refine hK.out _ _ (fun _ => HKP.out _ (HBX37.out)) (fun hS => ?_)
  replace hS := hS (by decide)
  clear hK K
  try simp only [Act.put, List.setIfInBounds_toArray, List.set_cons_zero, List.set_cons_succ]
  refine rdL 35 (h := fun K hK => ?_)
  go_simp
  (with_reducible refine (HCUT.out x37).mono ?_)
  rintro e _ ⟨rfl, rfl⟩
  go_wp2_with fail
  refine hK.out _ _ (fun _ => HKP.out _ (HBX37.out)) (fun hS => ?_)
  replace hS := hS (by decide)
  clear hK K
  try simp only [Act.put, List.setIfInBounds_toArray, List.set_cons_zero, List.set_cons_succ]
  refine tkL 36 (hS := hS) (h := ?_)
  refine wpAnyL_ready (rs := [38]) (by kernel_rfl) (by simp) ?_
  refine AllReadyL.cons (o := ?o22) ?ho22 (fun K hK => ?_) AllReadyL.nil
  case ho22 => simp only [List.getElem?_toArray, List.getElem?_cons_succ, List.getElem?_cons_zero]; rfl
  refine step_store_rep rfl 28 _ _ rfl _ (opC ⟨kd, s1, s2, withinI fd 0 3, withinI at_ 0 50, withinI nn 0 60, til.tmod 12, withinI sn 0 4, d40⟩ da dc) rfl rfl _ HAX37.out.1 opSize rfl (opC_one _ _ _) ?_
  intro w5 hs5
  have HMID := Lib.hid (TameMid.of HB2.out HOP.out HRE.out (HBX37.out) HAX37.out.2 hs5)
  clear hs5
  refine hK.out _ _ (fun h => absurd rfl h) (fun hS => ?_)
  clear hS hK K
  try simp only [Act.put, List.setIfInBounds_toArray, List.set_cons_zero, List.set_cons_succ]
  refine wpAnyL_done (by kernel_rfl) ?_ _
  refine NoPanic.normal ?_
  refine (show Hid _ from ?_).out
  rotate_left
  go_simp
  have HBX43 : Hid (Below w2.heap.size w2 ((w2.alloc (.cells #[.int .i64 0, .string ⟨#[]⟩, .string ⟨#[]⟩, .int .i64 0, .int .i64 0, .int .i64 0, .int .u64 0, .int .i64 0, .slice none 0 0] 28)).drew)) := Lib.hid (((Below.refl w2.heap.size w2).alloc (Nat.le_refl _) _).drew)
  have HAX43 : Hid (((w2.alloc (.cells #[.int .i64 0, .string ⟨#[]⟩, .string ⟨#[]⟩, .int .i64 0, .int .i64 0, .int .i64 0, .int .u64 0, .int .i64 0, .slice none 0 0] 28)).drew).heap[w2.heap.size]? = some (.cells #[.int .i64 0, .string ⟨#[]⟩, .string ⟨#[]⟩, .int .i64 0, .int .i64 0, .int .i64 0, .int .u64 0, .int .i64 0, .slice none 0 0] 28 (0, 0)) ∧ w2.heap.size ≤ w2.heap.size) := Lib.hid ⟨(MapKept.heap_alloc w2 _).1, Nat.le_refl _⟩
  refine hK.out _ _ (fun _ => HKP.out _ HBX43.out) (fun hS => ?_)
  replace hS := hS (by decide)
  clear hK K
  try simp only [Act.put, List.setIfInBounds_toArray, List.set_cons_zero, List.set_cons_succ]
  refine rdL 9 (h := fun K hK => ?_)
  go_simp
  (with_reducible refine (name_any _ HZ1.out ((w2.alloc (.cells #[.int .i64 0, .string ⟨#[]⟩, .string ⟨#[]⟩, .int .i64 0, .int .i64 0, .int .i64 0, .int .u64 0, .int .i64 0, .slice none 0 0] 28)).drew)).mono ?_)
  rintro e x44 ⟨s1, hs44, rfl, hbx44⟩
  have HN1 := Lib.hid hs44
  have HBX44 : Hid (Below w2.heap.size w2 x44) := Lib.hid (Below.trans (HBX43.out) (hbx44.mono (HBX43.out).size))
  have HAX44 : Hid (x44.heap[w2.heap.size]? = some (.cells #[.int .i64 0, .string ⟨#[]⟩, .string ⟨#[]⟩, .int .i64 0, .int .i64 0, .int .i64 0, .int .u64 0, .int .i64 0, .slice none 0 0] 28 (0, 0)) ∧ w2.heap.size ≤ w2.heap.size) := Lib.hid ⟨(hbx44.block _ (Array.getElem?_eq_some_iff.1 HAX43.out.1).1).trans HAX43.out.1, HAX43.out.2⟩
  clear hs44 hbx44
  go_wp2_with fail
  refine hK.out _ _ (fun _ => HKP.out _ HBX44.out) (fun hS => ?_)
  replace hS := hS (by decide)
  clear hK K
  try simp only [Act.put, List.setIfInBounds_toArray, List.set_cons_zero, List.set_cons_succ]
  refine rdL 17 (h := fun K hK => ?_)
  go_simp
  (with_reducible refine (name_any _ HZ2.out x44).mono ?_)
  rintro e x45 ⟨s2, hs45, rfl, hbx45⟩
  have HN2 := Lib.hid hs45
  have HBX45 : Hid (Below w2.heap.size w2 x45) := Lib.hid (Below.trans (HBX44.out) (hbx45.mono (HBX44.out).size))
  have HAX45 : Hid (x45.heap[w2.heap.size]? = some (.cells #[.int .i64 0, .string ⟨#[]⟩, .string ⟨#[]⟩, .int .i64 0, .int .i64 0, .int .i64 0, .int .u64 0, .int .i64 0, .slice none 0 0] 28 (0, 0)) ∧ w2.heap.size ≤ w2.heap.size) := Lib.hid ⟨(hbx45.block _ (Array.getElem?_eq_some_iff.1 HAX44.out.1).1).trans HAX44.out.1, HAX44.out.2⟩
  clear hs45 hbx45
  go_wp2_with fail
  refine hK.out _ _ (fun _ => HKP.out _ HBX45.out) (fun hS => ?_)
  replace hS := hS (by decide)
  clear hK K
  try simp only [Act.put, List.setIfInBounds_toArray, List.set_cons_zero, List.set_cons_succ]
  refine rdL 20 (h := fun K hK => ?_)
  go_simp
  (with_reducible refine (within_any fd 0 3 x45 HX.out.wf (by omega) (by omega) (by omega)).mono ?_)
  rintro e _ ⟨rfl, rfl⟩
  go_wp2_with fail
  refine hK.out _ _ (fun _ => HKP.out _ (HBX45.out)) (fun hS => ?_)
  replace hS := hS (by decide)
  clear hK K
  try simp only [Act.put, List.setIfInBounds_toArray, List.set_cons_zero, List.set_cons_succ]
  refine rdL 23 (h := fun K hK => ?_)
  go_simp
  (with_reducible refine (within_any at_ 0 50 x45 HX.out.wa (by omega) (by omega) (by omega)).mono ?_)
  rintro e _ ⟨rfl, rfl⟩
  go_wp2_with fail
  refine hK.out _ _ (fun _ => HKP.out _ (HBX45.out)) (fun hS => ?_)
  replace hS := hS (by decide)
  clear hK K
  try simp only [Act.put, List.setIfInBounds_toArray, List.set_cons_zero, List.set_cons_succ]
  refine rdL 26 (h := fun K hK => ?_)
  go_simp
  (with_reducible refine (within_any nn 0 60 x45 HX.out.wn (by omega) (by omega) (by omega)).mono ?_)
  rintro e _ ⟨rfl, rfl⟩
  go_wp2_with fail
  refine hK.out _ _ (fun _ => HKP.out _ (HBX45.out)) (fun hS => ?_)
  replace hS := hS (by decide)
  clear hK K
  try simp only [Act.put, List.setIfInBounds_toArray, List.set_cons_zero, List.set_cons_succ]
  refine rdL 32 (h := fun K hK => ?_)
  go_simp
  (with_reducible refine (within_any sn 0 4 x45 HX.out.ws (by omega) (by omega) (by omega)).mono ?_)
  rintro e _ ⟨rfl, rfl⟩
  go_wp2_with fail
  refine hK.out _ _ (fun _ => HKP.out _ (HBX45.out)) (fun hS => ?_)
  replace hS := hS (by decide)
  clear hK K
  try simp only [Act.put, List.setIfInBounds_toArray, List.set_cons_zero, List.set_cons_succ]
  refine rdL 35 (h := fun K hK => ?_)
  go_simp
  (with_reducible refine (HCUT.out x45).mono ?_)
  rintro e _ ⟨rfl, rfl⟩
  go_wp2_with fail
  refine hK.out _ _ (fun _ => HKP.out _ (HBX45.out)) (fun hS => ?_)
  replace hS := hS (by decide)
  clear hK K
  try simp only [Act.put, List.setIfInBounds_toArray, List.set_cons_zero, List.set_cons_succ]
  refine tkL 36 (hS := hS) (h := ?_)
  refine wpAnyL_ready (rs := [38]) (by kernel_rfl) (by simp) ?_
  refine AllReadyL.cons (o := ?o23) ?ho23 (fun K hK => ?_) AllReadyL.nil
  case ho23 => simp only [List.getElem?_toArray, List.getElem?_cons_succ, List.getElem?_cons_zero]; rfl
  refine step_store_rep rfl 28 _ _ rfl _ (opC ⟨kd, s1, s2, withinI fd 0 3, withinI at_ 0 50, withinI nn 0 60, til.tmod 12, withinI sn 0 4, d40⟩ da dc) rfl rfl _ HAX45.out.1 opSize rfl (opC_one _ _ _) ?_
  intro w5 hs5
  have HMID := Lib.hid (TameMid.of HB2.out HOP.out HRE.out (HBX45.out) HAX45.out.2 hs5)
  clear hs5
  refine hK.out _ _ (fun h => absurd rfl h) (fun hS => ?_)
  clear hS hK K
  try simp only [Act.put, List.setIfInBounds_toArray, List.set_cons_zero, List.set_cons_succ]
  refine wpAnyL_done (by kernel_rfl) ?_ _
  refine NoPanic.normal ?_
  refine (show Hid _ from ?_).out
  rotate_left
  all_goals
    refine Lib.hid ?_
    have y0 := HMID.out.kind
    have y7 := HMID.out.snap
    obtain ⟨z0, z1, z2, z3, z4, z5, z6, z7, z8, zf⟩ := HMID.out.all
    dsimp only at y0 y7 z0 z1 z2 z3 z4 z5 z6 z7 z8
    obtain ⟨hr7, hb7⟩ := HMID.out.put
    have HP7 := Lib.hid (And.intro hr7 hb7)
    clear hr7 hb7
    by_cases h3 : kd = 3
    · subst h3
      cases hs : (sn.tmod 3 != 0)
      case false =>
        go_wp2_with (refine wpList_store_rep (by rfl) 28 _ _ (by rfl) (w.heap.size + 1) (opC ⟨3, s1, s2, withinI fd 0 3, withinI at_ 0 50, withinI nn 0 60, til.tmod 12, withinI sn 0 4, d40⟩ da dc) (by rfl) (by rfl) _ HMID.out.res opSize rfl (opC_one _ _ _) ?_; intro w6 hs6; have HS6 := Lib.hid hs6; clear hs6)
        exact ret_op rfl rfl rfl HS6.out.1 (tame_end HX.out HDC.out HDA.out HD4.out HN1.out HN2.out (.inl rfl) rfl rfl rfl rfl rfl (HS6.out.below HMID.out.below (Nat.le_succ _)))
      case true =>
        go_wp2_with (refine wpList_store_rep (by rfl) 28 _ _ (by rfl) (w.heap.size + 1) (opC ⟨3, s1, s2, withinI fd 0 3, withinI at_ 0 50, withinI nn 0 60, til.tmod 12, 0, d40⟩ da dc) (by rfl) (by rfl) _ HP7.out.1 opSize rfl (opC_one _ _ _) ?_; intro w6 hs6; have HS6 := Lib.hid hs6; clear hs6)
        exact ret_op rfl rfl rfl HS6.out.1 (tame_end HX.out HDC.out HDA.out HD4.out HN1.out HN2.out (.inr rfl) rfl rfl rfl rfl rfl (HS6.out.below HP7.out.2 (Nat.le_succ _)))
    · have e3 : (kd == 3) = false := by simpa using h3
      clear h3
      by_cases h11 : kd = 11
      · subst h11
        cases hs : (sn.tmod 3 != 0)
        case false =>
          go_wp2_with (refine wpList_store_rep (by rfl) 28 _ _ (by rfl) (w.heap.size + 1) (opC ⟨11, s1, s2, withinI fd 0 3, withinI at_ 0 50, withinI nn 0 60, til.tmod 12, withinI sn 0 4, d40⟩ da dc) (by rfl) (by rfl) _ HMID.out.res opSize rfl (opC_one _ _ _) ?_; intro w6 hs6; have HS6 := Lib.hid hs6; clear hs6)
          exact ret_op rfl rfl rfl HS6.out.1 (tame_end HX.out HDC.out HDA.out HD4.out HN1.out HN2.out (.inl rfl) rfl rfl rfl rfl rfl (HS6.out.below HMID.out.below (Nat.le_succ _)))
        case true =>
          go_wp2_with (refine wpList_store_rep (by rfl) 28 _ _ (by rfl) (w.heap.size + 1) (opC ⟨11, s1, s2, withinI fd 0 3, withinI at_ 0 50, withinI nn 0 60, til.tmod 12, 0, d40⟩ da dc) (by rfl) (by rfl) _ HP7.out.1 opSize rfl (opC_one _ _ _) ?_; intro w6 hs6; have HS6 := Lib.hid hs6; clear hs6)
          exact ret_op rfl rfl rfl HS6.out.1 (tame_end HX.out HDC.out HDA.out HD4.out HN1.out HN2.out (.inr rfl) rfl rfl rfl rfl rfl (HS6.out.below HP7.out.2 (Nat.le_succ _)))
      · have e11 : (kd == 11) = false := by simpa using h11
        clear h11
        by_cases h12 : kd = 12
        · subst h12
          cases hs : (sn.tmod 3 != 0)
          case false =>
            go_wp2_with (refine wpList_store_rep (by rfl) 28 _ _ (by rfl) (w.heap.size + 1) (opC ⟨12, s1, s2, withinI fd 0 3, withinI at_ 0 50, withinI nn 0 60, til.tmod 12, withinI sn 0 4, d40⟩ da dc) (by rfl) (by rfl) _ HMID.out.res opSize rfl (opC_one _ _ _) ?_; intro w6 hs6; have HS6 := Lib.hid hs6; clear hs6)
            exact ret_op rfl rfl rfl HS6.out.1 (tame_end HX.out HDC.out HDA.out HD4.out HN1.out HN2.out (.inl rfl) rfl rfl rfl rfl rfl (HS6.out.below HMID.out.below (Nat.le_succ _)))
          case true =>
            go_wp2_with (refine wpList_store_rep (by rfl) 28 _ _ (by rfl) (w.heap.size + 1) (opC ⟨12, s1, s2, withinI fd 0 3, withinI at_ 0 50, withinI nn 0 60, til.tmod 12, 0, d40⟩ da dc) (by rfl) (by rfl) _ HP7.out.1 opSize rfl (opC_one _ _ _) ?_; intro w6 hs6; have HS6 := Lib.hid hs6; clear hs6)
            exact ret_op rfl rfl rfl HS6.out.1 (tame_end HX.out HDC.out HDA.out HD4.out HN1.out HN2.out (.inr rfl) rfl rfl rfl rfl rfl (HS6.out.below HP7.out.2 (Nat.le_succ _)))
        · have e12 : (kd == 12) = false := by simpa using h12
          clear h12
          go_wp2_with (refine wpList_store_rep (by rfl) 28 _ _ (by rfl) (w.heap.size + 1) (opC ⟨kd, s1, s2, withinI fd 0 3, withinI at_ 0 50, withinI nn 0 60, til.tmod 12, withinI sn 0 4, d40⟩ da dc) (by rfl) (by rfl) _ HMID.out.res opSize rfl (opC_one _ _ _) ?_; intro w6 hs6; have HS6 := Lib.hid hs6; clear hs6)
          exact ret_op rfl rfl rfl HS6.out.1 (tame_end HX.out HDC.out HDA.out HD4.out HN1.out HN2.out (.inl rfl) rfl rfl rfl rfl rfl (HS6.out.below HMID.out.below (Nat.le_succ _)))
end Go.Proofs.YtmabllemjkcobaaGreatDoor
