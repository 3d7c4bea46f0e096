/- package state: Do. package state: New. A law's own state: New, Do, Now. -/
import Derived.Test.YtpgklnhkfgbpgaaGreatDoorM40
import Derived.Test.YtpgklnhkfgbpgaaGreatDoorM41
import Derived.Test.YtpgklnhkfgbpgaaGreatDoorM42
import Derived.Test.YtpgklnhkfgbpgaaGreatDoorM43
import Derived.Test.YtpgklnhkfgbpgaaGreatDoorM31
import Derived.Test.YtpgklnhkfgbpgaaGreatDoorM13
namespace Go.Proofs.YtpgklnhkfgbpgaaGreatDoor
open Go.ChangeShapes Go.WideShapes Go.ChangeAt Go.RowKit
set_option linter.unusedVariables false
set_option linter.unusedSimpArgs false

section
variable {W w : World} {o : Mark} {i j k l n p : Nat} {M : StM}
set_option maxRecDepth 100000 in
set_option maxHeartbeats 8000000 in
theorem sdo_bad (hS : StateO o i j k w p M) (hM : Marks W o w) (hk : Mk5 i j k l n) (x : OpM) (hx : OpOk x) (da : Option Addr) (dc : Nat) (m : Int) (hm : w.cell? ⟨0, 0, none⟩ = some (.int .i64 m)) (hp : (pathsO x).2 ≠ 0) :
    Calls Tryz.prog 14 #[ptr p, .agg (opC x da dc)] w (DoRet o i j k l n w p (sdoM M x)) := by
  have hsd : sdoM M x = (noM (pathsO x).2, M) := if_pos hp
  obtain ⟨o1, hd2⟩ := DoAt.start hk hS hM x da dc
  have hb2 : Below w.heap.size w ((w.alloc (.cells (opC x da dc) 36)).alloc (.cells (reC (noM 0) none none 0 0) 33)) := (wall w _).trans ((wall _ _).mono (by simp))
  obtain ⟨w2, hw2⟩ : ∃ w2, w2 = (w.alloc (.cells (opC x da dc) 36)).alloc (.cells (reC (noM 0) none none 0 0) 33) := ⟨_, rfl⟩
  rw [← hw2] at hd2 hb2
  have hm2 : w2.cell? ⟨0, 0, none⟩ = some (.int .i64 m) := (hb2.cell (p := ⟨0, 0, none⟩) (World.block_lt_of_cell? w _ hm)).trans hm
  have hpc := paths_any p w2 x da dc hx m hm2
  obtain ⟨ps, er, hpe⟩ : ∃ ps er, pathsO x = (ps, er) := ⟨_, _, rfl⟩
  rw [hpe] at hpc hsd hp
  have hp : er ≠ 0 := hp
  have hnz : (er != 0) = true := by simpa using hp
  have HPC : Hid (Calls Tryz.prog 36 #[ptr p, .agg (opC x da dc)] ((w.alloc (.cells (opC x da dc) 36)).alloc (.cells (reC (noM 0) none none 0 0) 33)) (PathsRet w2 (ps, er))) := by rw [← hw2]; exact Lib.hid hpc
  unfold opC reC noM at HPC
  dsimp only [List.length_nil] at HPC
  have HSD := Lib.hid hsd
  have HD2 := Lib.hid hd2
  clear hS hM hk hx hm hp hsd hd2 hb2 hm2 hpc hw2 hpe
  unfold opC
  go_enter Tryz.func14, Tryz.ntmps14
  go_wp2_with fail
  (with_reducible refine HPC.out.mono ?_)
  clear HPC
  rintro e w3 ⟨a3, n3, c3, vs, rfl, -, -, -, -, hb3⟩
  have HD := Lib.hid (HD2.out.grow hb3)
  clear hb3 HD2
  go_wp2_with fail
  (with_reducible refine (no_any _ _).mono ?_)
  rintro e w9 ⟨rfl, hb9⟩
  unfold noV
  have HD9 := Lib.hid (HD.out.grow hb9)
  clear hb9
  go_wp2_with (refine wpList_store_rep (by rfl) 33 _ _ (by rfl) (w.heap.size + 1) (reC (noM er) none none 0 0) (by rfl) (by rfl) _ HD9.out.re repSize rfl (reC_one _ _ _ _ _) ?_; intro w5 hs5; have HS5 := Lib.hid hs5; clear hs5)
  exact ret_rep rfl rfl rfl HS5.out.1 (by rw [HSD.out]; exact HD9.out.fin0 HS5.out rfl rfl)
theorem sdo_any {S : Nat → Prop} (hS : StateO o i j k w p M) (hM : Marks W o w) (hk : Mk5 i j k l n) (cc : Int) (hok : StOk cc M) (hcc : cc ≤ 1000000000) (x : OpM) (hx : OpOk x) (da : Option Addr) (dc : Nat) (hda : RowAt S w da x.data.length (x.data.map bv)) (m : Int) (hm : w.cell? ⟨0, 0, none⟩ = some (.int .i64 m)) :
    Calls Tryz.prog 14 #[ptr p, .agg (opC x da dc)] w (DoRet o i j k l n w p (sdoM M x)) := by
  by_cases hp : (pathsO x).2 = 0
  · have hr : 1 ≤ x.kind ∧ x.kind ≤ 17 := by
      unfold pathsO at hp
      split at hp
      · assumption
      · simp at hp
    obtain ⟨kd, pa, to_, fd, at_, nn, til, sn, dt⟩ := x
    have h' : 1 ≤ kd ∧ kd ≤ 17 := hr
    rcases (show kd = 1 ∨ kd = 2 ∨ kd = 3 ∨ kd = 4 ∨ kd = 5 ∨ kd = 6 ∨ kd = 7 ∨ kd = 8 ∨ kd = 9 ∨ kd = 10 ∨ kd = 11 ∨ kd = 12 ∨ kd = 13 ∨ kd = 14 ∨ kd = 15 ∨ kd = 16 ∨ kd = 17 by omega) with rfl | rfl | rfl | rfl | rfl | rfl | rfl | rfl | rfl | rfl | rfl | rfl | rfl | rfl | rfl | rfl | rfl
    · exact sdo_k1 hS hM hk cc hok hcc pa to_ fd at_ nn til sn dt hx da dc hda m hm hp
    · exact sdo_k2 hS hM hk cc hok hcc pa to_ fd at_ nn til sn dt hx da dc hda m hm hp
    · exact sdo_k3 hS hM hk cc hok hcc pa to_ fd at_ nn til sn dt hx da dc hda m hm hp
    · exact sdo_k4 hS hM hk cc hok hcc pa to_ fd at_ nn til sn dt hx da dc hda m hm hp
    · exact sdo_k5 hS hM hk cc hok hcc pa to_ fd at_ nn til sn dt hx da dc hda m hm hp
    · exact sdo_k6 hS hM hk cc hok hcc pa to_ fd at_ nn til sn dt hx da dc hda m hm hp
    · exact sdo_k7 hS hM hk cc hok hcc pa to_ fd at_ nn til sn dt hx da dc hda m hm hp
    · exact sdo_k8 hS hM hk cc hok hcc pa to_ fd at_ nn til sn dt hx da dc hda m hm hp
    · exact sdo_k9 hS hM hk cc hok hcc pa to_ fd at_ nn til sn dt hx da dc hda m hm hp
    · exact sdo_k10 hS hM hk cc hok hcc pa to_ fd at_ nn til sn dt hx da dc hda m hm hp
    · exact sdo_k11 hS hM hk cc hok hcc pa to_ fd at_ nn til sn dt hx da dc hda m hm hp
    · exact sdo_k12 hS hM hk cc hok hcc pa to_ fd at_ nn til sn dt hx da dc hda m hm hp
    · exact sdo_k13 hS hM hk cc hok hcc pa to_ fd at_ nn til sn dt hx da dc hda m hm hp
    · exact sdo_k14 hS hM hk cc hok hcc pa to_ fd at_ nn til sn dt hx da dc hda m hm hp
    · exact sdo_k15 hS hM hk cc hok hcc pa to_ fd at_ nn til sn dt hx da dc hda m hm hp
    · exact sdo_k16 hS hM hk cc hok hcc pa to_ fd at_ nn til sn dt hx da dc hda m hm hp
    · exact sdo_k17 hS hM hk cc hok hcc pa to_ fd at_ nn til sn dt hx da dc hda m hm hp
  · exact sdo_bad hS hM hk x hx da dc m hm hp
end
end Go.Proofs.YtpgklnhkfgbpgaaGreatDoor
namespace Go.Proofs.YtpgklnhkfgbpgaaGreatDoor
open Go.ChangeShapes Go.WideShapes Go.ChangeAt Go.RowKit
set_option linter.unusedVariables false
set_option linter.unusedSimpArgs false

theorem newTree_mark (W w : World) (o : Mark) (hM : Marks W o w) (j : Nat) : Calls Tryz.prog 34 #[] w fun e w' => ∃ p o', e = .returned (ptr p) ∧ Step o (fun k => k = j) w o' w' ∧ TreeO o' j w' p newM ∧ Below w.heap.size w w' := by
  refine (new_any w).mono ?_
  rintro e w' ⟨g, mb, ib, nb, p, rfl, hA, hg, hb⟩
  obtain ⟨o', hs, h1, h2⟩ := mark_new hM j (fun b => g b ≠ .none) (w' := w') (fun b hb' => ⟨hg b hb', hA.low b hb'⟩) hb
  exact ⟨p, o', rfl, hs, ⟨g, _, mb, ib, nb, hA, fun b hb' => h1 b hb', fun b hb' => hb'.elim⟩, hb⟩
set_option maxRecDepth 100000 in
theorem snew_any (W w : World) (o : Mark) (hM : Marks W o w) {i j k l : Nat} (hk : Mk i j k l) : Calls Tryz.prog 12 #[] w fun e w' => ∃ p o', e = .returned (ptr p) ∧ Step o (fun m => m = i ∨ m = j ∨ m = k ∨ m = l) w o' w' ∧ StateO o' i j k w' p newSt ∧ Below w.heap.size w w' := by
  obtain ⟨n1, n2, n3, n4, n5, n6, n7, n8, n9, n10⟩ := hk.ne
  have HM := Lib.hid hM
  clear hM hk
  go_enter Tryz.func12, Tryz.ntmps12
  go_wp2_with fail
  (with_reducible refine (newTree_mark W w o HM.out j).mono ?_)
  rintro e w1 ⟨t, o1, rfl, hs1, hT1, hb1⟩
  have HM1 := Lib.hid (HM.out.step (fun e => n2 e.symm) hs1)
  have HS1 := Lib.hid hs1
  have HT1 := Lib.hid hT1
  have HB1 := Lib.hid hb1
  clear hs1 hT1 hb1
  go_wp2_with fail
  (with_reducible refine (new_snaps HM1.out i n1).mono ?_)
  rintro e w2 ⟨s, o2, rfl, hs2, hS2, hb2⟩
  have h0i : ¬ (fun m => m = i) 0 := fun e => n1 e.symm
  have h0k : ¬ (fun m => m = k) 0 := fun e => n3 e.symm
  have HM2 := Lib.hid (HM1.out.step h0i hs2)
  have HT2 := Lib.hid (HT1.out.step h0i (fun e => n5 e.symm) hs2)
  have HS2 := Lib.hid hs2
  have HSN := Lib.hid hS2
  have HB2 := Lib.hid hb2
  clear hs2 hS2 hb2
  go_wp2_with fail
  go_ret
  have hb3 : Below w2.heap.size w2 (w2.alloc (.cells (stC t s 0 fun _ => .pointer none) 70)) := wall w2 _
  obtain ⟨o3, hs3, h1, h2⟩ := mark_new HM2.out k (fun b => b = w2.heap.size) (w' := w2.alloc (.cells (stC t s 0 fun _ => .pointer none) 70)) (fun b hb => by subst hb; exact ⟨Nat.le_refl _, by simp⟩) hb3
  exact ⟨w2.heap.size, o3, rfl, ((HS1.out.mono fun m hm => .inr (.inl hm)).trans (HS2.out.mono fun m hm => .inl hm)).trans (hs3.mono fun m hm => .inr (.inr (.inl hm))), ⟨⟨t, s, fun _ => .pointer none, (MapKept.heap_alloc w2 _).1, HSN.out.step h0k n6 hs3, HT2.out.step h0k n8 hs3, fun n hn => rfl⟩, h1 _ rfl, by simp⟩, HB1.out.trans ((HB2.out.trans (hb3.mono HB2.out.size)).mono HB1.out.size)⟩
end Go.Proofs.YtpgklnhkfgbpgaaGreatDoor
namespace Go.Proofs.YtpgklnhkfgbpgaaGreatDoor
open Go.ChangeShapes Go.WideShapes Go.ChangeAt Go.RowKit
set_option linter.unusedVariables false
set_option linter.unusedSimpArgs false

/-- Five marks, from i on. -/
abbrev Five (i : Nat) : Nat → Prop := fun m => i ≤ m ∧ m ≤ i + 4
/-- A law's own state: i, i + 1, i + 2 mark its blocks. -/
structure StW (W : World) (o : Mark) (i : Nat) (w : World) (p : Nat) (c : Int) (M : StM) : Prop where
  st : StateO o i (i + 1) (i + 2) w p M
  marks : Marks W o w
  ok : StOk c M
theorem mk5 {i : Nat} (hi : 0 < i) : Mk5 i (i + 1) (i + 2) (i + 3) (i + 4) := ⟨⟨by omega⟩, by omega⟩
section
variable {W w w' : World} {o o' : Mark} {i p : Nat} {c : Int} {M : StM}
theorem StW.grow (h : StW W o i w p c M) (hb : Below w.heap.size w w') : StW W o i w' p c M := ⟨h.st.grow h.marks hb, h.marks.grow hb, h.ok⟩
theorem StW.below (h : StW W o i w p c M) : Below W.heap.size W w := h.marks.below
theorem StW.mono {d : Int} (h : StW W o i w p c M) (hcd : c ≤ d) : StW W o i w p d M := ⟨h.st, h.marks, h.ok.mono hcd⟩
/-- Another one's turn. -/
theorem StW.other {j : Nat} (h : StW W o i w p c M) (hi : 0 < i) (hj : 0 < j) (hd : i + 4 < j ∨ j + 4 < i) (hs : Step o (Five j) w o' w') : StW W o' i w' p c M :=
  ⟨h.st.step (fun e => by have := e.1; omega) (fun e => by have := e.1; have := e.2; omega) (fun e => by have := e.1; have := e.2; omega) (fun e => by have := e.1; have := e.2; omega) hs, h.marks.step (fun e => by have := e.1; omega) hs, h.ok⟩
theorem five_of {i m : Nat} (h : m = i ∨ m = i + 1 ∨ m = i + 2 ∨ m = i + 3 ∨ m = i + 4) : Five i m := ⟨by omega, by omega⟩
theorem st_new (hM : Marks W o w) (hi : 0 < i) : Calls Tryz.prog 12 #[] w fun e w' => ∃ p o', e = .returned (ptr p) ∧ Step o (Five i) w o' w' ∧ StW W o' i w' p 1 newSt := by
  refine (snew_any W w o hM (mk5 hi).mm).mono ?_
  rintro e w' ⟨p, o', rfl, hs, hS, hb⟩
  have hs5 : Step o (Five i) w o' w' := hs.mono fun m hm => five_of (by omega)
  exact ⟨p, o', rfl, hs5, ⟨hS, hM.step (fun e => by have := e.1; omega) hs5, StOk.new⟩⟩
/-- What a law's Do gives. -/
def DoW (W : World) (o : Mark) (i : Nat) (w : World) (p : Nat) (c : Int) (M : StM) (x : OpM) (e : Ending) (w' : World) : Prop :=
  ∃ o', RepRet o' (sdoM M x).1 e w' ∧ Step o (Five i) w o' w' ∧ StW W o' i w' p (c + 1) (sdoM M x).2
theorem st_do {S : Nat → Prop} (h : StW W o i w p c M) (hi : 0 < i) (hc : c ≤ 1000000000) (x : OpM) (hx : OpOk x) (da : Option Addr) (dc : Nat) (hda : RowAt S w da x.data.length (x.data.map bv)) (m : Int) (hm : W.cell? ⟨0, 0, none⟩ = some (.int .i64 m)) :
    Calls Tryz.prog 14 #[ptr p, .agg (opC x da dc)] w (DoW W o i w p c M x) := by
  have hmw : w.cell? ⟨0, 0, none⟩ = some (.int .i64 m) := (h.marks.below.cell (p := ⟨0, 0, none⟩) (World.block_lt_of_cell? W _ hm)).trans hm
  refine (sdo_any h.st h.marks (mk5 hi) c h.ok hc x hx da dc hda m hmw).mono ?_
  rintro e w' ⟨o', h1, hs, hS⟩
  have hs5 : Step o (Five i) w o' w' := hs.mono fun m hm => five_of hm
  exact ⟨o', h1, hs5, ⟨hS, h.marks.step (fun e => by have := e.1; omega) hs5, h.ok.do_ x hx⟩⟩
theorem stw_now (h : StW W o i w p c M) : Calls Tryz.prog 19 #[ptr p] w fun e w' => e = .returned (.int .u64 M.now) ∧ Below w.heap.size w w' := now_any h.st
end
theorem marks0 (W : World) : Marks W (fun _ => 0) W := ⟨fun b hb => absurd rfl hb, Below.refl _ _⟩
theorem opOk_small {x : OpM} (wk : 0 ≤ x.kind ∧ x.kind ≤ 1000) (wf : 0 ≤ x.fd ∧ x.fd ≤ 1000) (wa : 0 ≤ x.at_ ∧ x.at_ ≤ 1000000) (wn : 0 ≤ x.n ∧ x.n ≤ 1000000) (ws : 0 ≤ x.snap ∧ x.snap ≤ 1000000) (wt : 0 ≤ x.til ∧ x.til ≤ 18446744073709551615) (wp : x.path.length ≤ 1000) (wq : x.to_.length ≤ 1000) (wd : x.data.length ≤ 1000000) : OpOk x :=
  ⟨okInt (by omega) (by omega), okInt (by omega) (by omega), okInt (by omega) (by omega), okInt (by omega) (by omega), okInt (by omega) (by omega), wt, by omega, by omega, by omega⟩
end Go.Proofs.YtpgklnhkfgbpgaaGreatDoor
