/- permafrostkeep.Tame: the walk. -/
import Derived.Test.YtpgklnhkfgbpgaaGreatDoorM46
namespace Go.Proofs.YtpgklnhkfgbpgaaGreatDoor
open Go.ChangeShapes Go.WideShapes Go.ChangeAt Go.RowKit
set_option linter.unusedVariables false
set_option linter.unusedSimpArgs false

set_option maxRecDepth 100000 in
set_option maxHeartbeats 16000000 in
theorem tame_all {S : Nat → Prop} (w : World) (kd : Int) (pa to_ : List UInt8) (fd at_ nn til sn : Int) (dt : List UInt8) (hx : OpRaw ⟨kd, pa, to_, fd, at_, nn, til, sn, dt⟩) (da : Option Addr) (dc : Nat) (hdc : dt.length ≤ dc) (hda : RowAt S w da dt.length (dt.map bv)) :
    Calls Tryz.prog 15 #[.agg (opC ⟨kd, pa, to_, fd, at_, nn, til, sn, dt⟩ da dc)] w (TameRet S w ⟨kd, pa, to_, fd, at_, nn, til, sn, dt⟩ da) := by
  obtain ⟨w2, hw2⟩ : ∃ w2, w2 = (w.alloc (.cells (opC ⟨kd, pa, to_, fd, at_, nn, til, sn, dt⟩ da dc) 36)).alloc (.cells #[.int .i64 0, .string ⟨#[]⟩, .string ⟨#[]⟩, .int .i64 0, .int .i64 0, .int .i64 0, .int .u64 0, .int .i64 0, .slice none 0 0] 36) := ⟨_, rfl⟩
  have hb2 : Below w.heap.size w w2 := by rw [hw2]; exact ((Below.refl _ _).alloc (Nat.le_refl _) _).trans (((Below.refl _ _).alloc (Nat.le_refl _) _).mono (by simp))
  have hop : w2.heap[w.heap.size]? = some (.cells (opC ⟨kd, pa, to_, fd, at_, nn, til, sn, dt⟩ da dc) 36 (0, 0)) := by
    rw [hw2]
    exact (((Below.refl _ _).alloc (Nat.le_refl _) _).block _ (by simp)).trans (MapKept.heap_alloc w _).1
  have hre : w2.heap[w.heap.size + 1]? = some (.cells #[.int .i64 0, .string ⟨#[]⟩, .string ⟨#[]⟩, .int .i64 0, .int .i64 0, .int .i64 0, .int .u64 0, .int .i64 0, .slice none 0 0] 36 (0, 0)) := by
    rw [hw2]
    have := (MapKept.heap_alloc (w.alloc (.cells (opC ⟨kd, pa, to_, fd, at_, nn, til, sn, dt⟩ da dc) 36)) (.cells #[.int .i64 0, .string ⟨#[]⟩, .string ⟨#[]⟩, .int .i64 0, .int .i64 0, .int .i64 0, .int .u64 0, .int .i64 0, .slice none 0 0] 36)).1
    rw [World.size_alloc] at this
    exact this
  have HKP : Hid (∀ w3, Below w2.heap.size w2 w3 → (fun w' => w'.cell? ⟨w.heap.size, 0, none⟩ = some (.int .i64 kd) ∧ w'.cell? ⟨w.heap.size, 1, none⟩ = some (.string (strOf pa)) ∧ w'.cell? ⟨w.heap.size, 2, none⟩ = some (.string (strOf to_)) ∧ w'.cell? ⟨w.heap.size, 3, none⟩ = some (.int .i64 fd) ∧ w'.cell? ⟨w.heap.size, 4, none⟩ = some (.int .i64 at_) ∧ w'.cell? ⟨w.heap.size, 5, none⟩ = some (.int .i64 nn) ∧ w'.cell? ⟨w.heap.size, 6, none⟩ = some (.int .u64 til) ∧ w'.cell? ⟨w.heap.size, 7, none⟩ = some (.int .i64 sn) ∧ w'.cell? ⟨w.heap.size, 8, none⟩ = some (.slice da dt.length dc)) w3) := fun w3 hb => by
    have := (hb.block _ (Array.getElem?_eq_some_iff.1 hop).1).trans hop
    unfold opC at this
    refine ⟨?_, ?_, ?_, ?_, ?_, ?_, ?_, ?_, ?_⟩ <;> simp [World.cell?, this]
  have HX := Lib.hid hx
  have HRE := Lib.hid hre
  have HOP := Lib.hid hop
  have HB2 := Lib.hid hb2
  have HW2 := Lib.hid hw2
  have HDA := Lib.hid hda
  have HDC := Lib.hid hdc
  have HZ1 : Hid ((Lit.int .i64 (IntKind.i64.wrap (((strOf pa).size : Int) + at_.tmod 7))).wf = true) := i64_wrap_wf _
  have HZ2 : Hid ((Lit.int .i64 (IntKind.i64.wrap (((strOf to_).size : Int) + nn.tmod 7))).wf = true) := i64_wrap_wf _
  obtain ⟨d40, hd40⟩ : ∃ d40, d40 = dt.take 40 := ⟨_, rfl⟩
  have HD4 := Lib.hid hd40
  have HCUT : Hid (∀ w : World, Calls Tryz.prog 13 #[.slice da dt.length dc, .int .i64 40] w fun e w' => e = .returned (.slice da d40.length dc) ∧ w = w') := fun w => by
    have := cut_any da dt.length dc 40 hdc (by omega) hda.small w
    rw [show min dt.length 40 = d40.length by rw [hd40, List.length_take, Nat.min_comm]] at this
    exact this
  clear hx hre hb2 hop hda hdc hd40
  unfold opC at HW2
  unfold opC
  go_enter Tryz.func15, Tryz.ntmps15
  go_wp2_with fail
  rw [← HW2.out]
  clear HW2 hw2
  refine wp_region_noPanic ?_
  refine wp_region_L (last := 38) (S := (fun w' => w'.cell? ⟨w.heap.size, 0, none⟩ = some (.int .i64 kd) ∧ w'.cell? ⟨w.heap.size, 1, none⟩ = some (.string (strOf pa)) ∧ w'.cell? ⟨w.heap.size, 2, none⟩ = some (.string (strOf to_)) ∧ w'.cell? ⟨w.heap.size, 3, none⟩ = some (.int .i64 fd) ∧ w'.cell? ⟨w.heap.size, 4, none⟩ = some (.int .i64 at_) ∧ w'.cell? ⟨w.heap.size, 5, none⟩ = some (.int .i64 nn) ∧ w'.cell? ⟨w.heap.size, 6, none⟩ = some (.int .u64 til) ∧ w'.cell? ⟨w.heap.size, 7, none⟩ = some (.int .i64 sn) ∧ w'.cell? ⟨w.heap.size, 8, none⟩ = some (.slice da dt.length dc))) (by kernel_rfl) ?_ (fun hS => ?_)
  · exact HKP.out _ (Below.refl _ _).drew
  refine wpAnyL_take (i := 0) (oi := ?oi1) (v := ?v1) ?hi1 (by kernel_rfl) (by kernel_rfl) (by kernel_rfl) (by kernel_rfl) (by kernel_rfl) ?hq1 (Or.inl ⟨?hw1, ?hy1⟩) hS ?rest1
  case hi1 => simp only [List.getElem?_toArray, List.getElem?_cons_succ, List.getElem?_cons_zero]; rfl
  case hq1 => exact fun _ _ _ h => h
  case hw1 => rfl
  case hy1 => intro w hSw; (try dsimp only at hSw); go_simp; (try with_reducible rfl)
  try simp only [Act.put, List.setIfInBounds_toArray, List.set_cons_zero, List.set_cons_succ]
  refine wpAnyL_take (i := 1) (oi := ?oi2) (v := ?v2) ?hi2 (by kernel_rfl) (by kernel_rfl) (by kernel_rfl) (by kernel_rfl) (by kernel_rfl) ?hq2 (Or.inl ⟨?hw2, ?hy2⟩) hS ?rest2
  case hi2 => simp only [List.getElem?_toArray, List.getElem?_cons_succ, List.getElem?_cons_zero]; rfl
  case hq2 => exact fun _ _ _ h => h
  case hw2 => rfl
  case hy2 => intro w hSw; (try dsimp only at hSw); go_simp; (try with_reducible rfl)
  try simp only [Act.put, List.setIfInBounds_toArray, List.set_cons_zero, List.set_cons_succ]
  refine wpAnyL_take (i := 2) (oi := ?oi3) (v := ?v3) ?hi3 (by kernel_rfl) (by kernel_rfl) (by kernel_rfl) (by kernel_rfl) (by kernel_rfl) ?hq3 (Or.inl ⟨?hw3, ?hy3⟩) hS ?rest3
  case hi3 => simp only [List.getElem?_toArray, List.getElem?_cons_succ, List.getElem?_cons_zero]; rfl
  case hq3 => exact fun _ _ _ h => h
  case hw3 => rfl
  case hy3 => intro w hSw; (try dsimp only at hSw); go_simp; (try with_reducible rfl)
  try simp only [Act.put, List.setIfInBounds_toArray, List.set_cons_zero, List.set_cons_succ]
  refine wpAnyL_take (i := 3) (oi := ?oi4) (v := ?v4) ?hi4 (by kernel_rfl) (by kernel_rfl) (by kernel_rfl) (by kernel_rfl) (by kernel_rfl) ?hq4 (Or.inl ⟨?hw4, ?hy4⟩) hS ?rest4
  case hi4 => simp only [List.getElem?_toArray, List.getElem?_cons_succ, List.getElem?_cons_zero]; rfl
  case hq4 => exact fun _ _ _ h => h
  case hw4 => rfl
  case hy4 => intro w hSw; (try dsimp only at hSw); go_simp; (try with_reducible rfl)
  try simp only [Act.put, List.setIfInBounds_toArray, List.set_cons_zero, List.set_cons_succ]
  refine wpAnyL_take (i := 4) (oi := ?oi5) (v := ?v5) ?hi5 (by kernel_rfl) (by kernel_rfl) (by kernel_rfl) (by kernel_rfl) (by kernel_rfl) ?hq5 (Or.inl ⟨?hw5, ?hy5⟩) hS ?rest5
  case hi5 => simp only [List.getElem?_toArray, List.getElem?_cons_succ, List.getElem?_cons_zero]; rfl
  case hq5 => exact fun _ _ _ h => h
  case hw5 => rfl
  case hy5 => intro w hSw; (try dsimp only at hSw); go_simp; (try with_reducible rfl)
  try simp only [Act.put, List.setIfInBounds_toArray, List.set_cons_zero, List.set_cons_succ]
  refine wpAnyL_take (i := 5) (oi := ?oi6) (v := ?v6) ?hi6 (by kernel_rfl) (by kernel_rfl) (by kernel_rfl) (by kernel_rfl) (by kernel_rfl) ?hq6 (Or.inl ⟨?hw6, ?hy6⟩) hS ?rest6
  case hi6 => simp only [List.getElem?_toArray, List.getElem?_cons_succ, List.getElem?_cons_zero]; rfl
  case hq6 => exact fun _ _ _ h => h
  case hw6 => rfl
  case hy6 => intro w hSw; (try dsimp only at hSw); go_simp; (try with_reducible rfl)
  try simp only [Act.put, List.setIfInBounds_toArray, List.set_cons_zero, List.set_cons_succ]
  refine wpAnyL_take (i := 6) (oi := ?oi7) (v := ?v7) ?hi7 (by kernel_rfl) (by kernel_rfl) (by kernel_rfl) (by kernel_rfl) (by kernel_rfl) ?hq7 (Or.inl ⟨?hw7, ?hy7⟩) hS ?rest7
  case hi7 => simp only [List.getElem?_toArray, List.getElem?_cons_succ, List.getElem?_cons_zero]; rfl
  case hq7 => exact fun _ _ _ h => h
  case hw7 => rfl
  case hy7 => intro w hSw; (try dsimp only at hSw); go_simp; (try with_reducible rfl)
  try simp only [Act.put, List.setIfInBounds_toArray, List.set_cons_zero, List.set_cons_succ]
  refine wpAnyL_take (i := 7) (oi := ?oi8) (v := ?v8) ?hi8 (by kernel_rfl) (by kernel_rfl) (by kernel_rfl) (by kernel_rfl) (by kernel_rfl) ?hq8 (Or.inl ⟨?hw8, ?hy8⟩) hS ?rest8
  case hi8 => simp only [List.getElem?_toArray, List.getElem?_cons_succ, List.getElem?_cons_zero]; rfl
  case hq8 => exact fun _ _ _ h => h
  case hw8 => rfl
  case hy8 => intro w hSw; (try dsimp only at hSw); go_simp; (try with_reducible rfl)
  try simp only [Act.put, List.setIfInBounds_toArray, List.set_cons_zero, List.set_cons_succ]
  refine wpAnyL_take (i := 8) (oi := ?oi9) (v := ?v9) ?hi9 (by kernel_rfl) (by kernel_rfl) (by kernel_rfl) (by kernel_rfl) (by kernel_rfl) ?hq9 (Or.inl ⟨?hw9, ?hy9⟩) hS ?rest9
  case hi9 => simp only [List.getElem?_toArray, List.getElem?_cons_succ, List.getElem?_cons_zero]; rfl
  case hq9 => exact fun _ _ _ h => h
  case hw9 => rfl
  case hy9 => intro w hSw; (try dsimp only at hSw); go_simp; (try with_reducible rfl)
  try simp only [Act.put, List.setIfInBounds_toArray, List.set_cons_zero, List.set_cons_succ]
  refine wpAnyL_take (i := 10) (oi := ?oi10) (v := ?v10) ?hi10 (by kernel_rfl) (by kernel_rfl) (by kernel_rfl) (by kernel_rfl) (by kernel_rfl) ?hq10 (Or.inl ⟨?hw10, ?hy10⟩) hS ?rest10
  case hi10 => simp only [List.getElem?_toArray, List.getElem?_cons_succ, List.getElem?_cons_zero]; rfl
  case hq10 => exact fun _ _ _ h => h
  case hw10 => rfl
  case hy10 => intro w hSw; (try dsimp only at hSw); go_simp; (try with_reducible rfl)
  try simp only [Act.put, List.setIfInBounds_toArray, List.set_cons_zero, List.set_cons_succ]
  refine wpAnyL_take (i := 11) (oi := ?oi11) (v := ?v11) ?hi11 (by kernel_rfl) (by kernel_rfl) (by kernel_rfl) (by kernel_rfl) (by kernel_rfl) ?hq11 (Or.inl ⟨?hw11, ?hy11⟩) hS ?rest11
  case hi11 => simp only [List.getElem?_toArray, List.getElem?_cons_succ, List.getElem?_cons_zero]; rfl
  case hq11 => exact fun _ _ _ h => h
  case hw11 => rfl
  case hy11 => intro w hSw; (try dsimp only at hSw); go_simp; (try with_reducible rfl)
  try simp only [Act.put, List.setIfInBounds_toArray, List.set_cons_zero, List.set_cons_succ]
  refine wpAnyL_take (i := 12) (oi := ?oi12) (v := ?v12) ?hi12 (by kernel_rfl) (by kernel_rfl) (by kernel_rfl) (by kernel_rfl) (by kernel_rfl) ?hq12 (Or.inl ⟨?hw12, ?hy12⟩) hS ?rest12
  case hi12 => simp only [List.getElem?_toArray, List.getElem?_cons_succ, List.getElem?_cons_zero]; rfl
  case hq12 => exact fun _ _ _ h => h
  case hw12 => rfl
  case hy12 => intro w hSw; (try dsimp only at hSw); go_simp; (try with_reducible rfl)
  try simp only [Act.put, List.setIfInBounds_toArray, List.set_cons_zero, List.set_cons_succ]
  refine wpAnyL_take (i := 13) (oi := ?oi13) (v := ?v13) ?hi13 (by kernel_rfl) (by kernel_rfl) (by kernel_rfl) (by kernel_rfl) (by kernel_rfl) ?hq13 (Or.inl ⟨?hw13, ?hy13⟩) hS ?rest13
  case hi13 => simp only [List.getElem?_toArray, List.getElem?_cons_succ, List.getElem?_cons_zero]; rfl
  case hq13 => exact fun _ _ _ h => h
  case hw13 => rfl
  case hy13 => intro w hSw; (try dsimp only at hSw); go_simp; (try with_reducible rfl)
  try simp only [Act.put, List.setIfInBounds_toArray, List.set_cons_zero, List.set_cons_succ]
  refine wpAnyL_take (i := 14) (oi := ?oi14) (v := ?v14) ?hi14 (by kernel_rfl) (by kernel_rfl) (by kernel_rfl) (by kernel_rfl) (by kernel_rfl) ?hq14 (Or.inl ⟨?hw14, ?hy14⟩) hS ?rest14
  case hi14 => simp only [List.getElem?_toArray, List.getElem?_cons_succ, List.getElem?_cons_zero]; rfl
  case hq14 => exact fun _ _ _ h => h
  case hw14 => rfl
  case hy14 => intro w hSw; (try dsimp only at hSw); go_simp; (try with_reducible rfl)
  try simp only [Act.put, List.setIfInBounds_toArray, List.set_cons_zero, List.set_cons_succ]
  refine wpAnyL_take (i := 15) (oi := ?oi15) (v := ?v15) ?hi15 (by kernel_rfl) (by kernel_rfl) (by kernel_rfl) (by kernel_rfl) (by kernel_rfl) ?hq15 (Or.inl ⟨?hw15, ?hy15⟩) hS ?rest15
  case hi15 => simp only [List.getElem?_toArray, List.getElem?_cons_succ, List.getElem?_cons_zero]; rfl
  case hq15 => exact fun _ _ _ h => h
  case hw15 => rfl
  case hy15 => intro w hSw; (try dsimp only at hSw); go_simp; (try with_reducible rfl)
  try simp only [Act.put, List.setIfInBounds_toArray, List.set_cons_zero, List.set_cons_succ]
  refine wpAnyL_take (i := 16) (oi := ?oi16) (v := ?v16) ?hi16 (by kernel_rfl) (by kernel_rfl) (by kernel_rfl) (by kernel_rfl) (by kernel_rfl) ?hq16 (Or.inl ⟨?hw16, ?hy16⟩) hS ?rest16
  case hi16 => simp only [List.getElem?_toArray, List.getElem?_cons_succ, List.getElem?_cons_zero]; rfl
  case hq16 => exact fun _ _ _ h => h
  case hw16 => rfl
  case hy16 => intro w hSw; (try dsimp only at hSw); go_simp; (try with_reducible rfl)
  try simp only [Act.put, List.setIfInBounds_toArray, List.set_cons_zero, List.set_cons_succ]
  refine wpAnyL_take (i := 18) (oi := ?oi17) (v := ?v17) ?hi17 (by kernel_rfl) (by kernel_rfl) (by kernel_rfl) (by kernel_rfl) (by kernel_rfl) ?hq17 (Or.inl ⟨?hw17, ?hy17⟩) hS ?rest17
  case hi17 => simp only [List.getElem?_toArray, List.getElem?_cons_succ, List.getElem?_cons_zero]; rfl
  case hq17 => exact fun _ _ _ h => h
  case hw17 => rfl
  case hy17 => intro w hSw; (try dsimp only at hSw); go_simp; (try with_reducible rfl)
  try simp only [Act.put, List.setIfInBounds_toArray, List.set_cons_zero, List.set_cons_succ]
  refine wpAnyL_take (i := 19) (oi := ?oi18) (v := ?v18) ?hi18 (by kernel_rfl) (by kernel_rfl) (by kernel_rfl) (by kernel_rfl) (by kernel_rfl) ?hq18 (Or.inl ⟨?hw18, ?hy18⟩) hS ?rest18
  case hi18 => simp only [List.getElem?_toArray, List.getElem?_cons_succ, List.getElem?_cons_zero]; rfl
  case hq18 => exact fun _ _ _ h => h
  case hw18 => rfl
  case hy18 => intro w hSw; (try dsimp only at hSw); go_simp; (try with_reducible rfl)
  try simp only [Act.put, List.setIfInBounds_toArray, List.set_cons_zero, List.set_cons_succ]
  refine wpAnyL_take (i := 21) (oi := ?oi19) (v := ?v19) ?hi19 (by kernel_rfl) (by kernel_rfl) (by kernel_rfl) (by kernel_rfl) (by kernel_rfl) ?hq19 (Or.inl ⟨?hw19, ?hy19⟩) hS ?rest19
  case hi19 => simp only [List.getElem?_toArray, List.getElem?_cons_succ, List.getElem?_cons_zero]; rfl
  case hq19 => exact fun _ _ _ h => h
  case hw19 => rfl
  case hy19 => intro w hSw; (try dsimp only at hSw); go_simp; (try with_reducible rfl)
  try simp only [Act.put, List.setIfInBounds_toArray, List.set_cons_zero, List.set_cons_succ]
  refine wpAnyL_take (i := 22) (oi := ?oi20) (v := ?v20) ?hi20 (by kernel_rfl) (by kernel_rfl) (by kernel_rfl) (by kernel_rfl) (by kernel_rfl) ?hq20 (Or.inl ⟨?hw20, ?hy20⟩) hS ?rest20
  case hi20 => simp only [List.getElem?_toArray, List.getElem?_cons_succ, List.getElem?_cons_zero]; rfl
  case hq20 => exact fun _ _ _ h => h
  case hw20 => rfl
  case hy20 => intro w hSw; (try dsimp only at hSw); go_simp; (try with_reducible rfl)
  try simp only [Act.put, List.setIfInBounds_toArray, List.set_cons_zero, List.set_cons_succ]
  refine wpAnyL_take (i := 24) (oi := ?oi21) (v := ?v21) ?hi21 (by kernel_rfl) (by kernel_rfl) (by kernel_rfl) (by kernel_rfl) (by kernel_rfl) ?hq21 (Or.inl ⟨?hw21, ?hy21⟩) hS ?rest21
  case hi21 => simp only [List.getElem?_toArray, List.getElem?_cons_succ, List.getElem?_cons_zero]; rfl
  case hq21 => exact fun _ _ _ h => h
  case hw21 => rfl
  case hy21 => intro w hSw; (try dsimp only at hSw); go_simp; (try with_reducible rfl)
  try simp only [Act.put, List.setIfInBounds_toArray, List.set_cons_zero, List.set_cons_succ]
  refine wpAnyL_take (i := 25) (oi := ?oi22) (v := ?v22) ?hi22 (by kernel_rfl) (by kernel_rfl) (by kernel_rfl) (by kernel_rfl) (by kernel_rfl) ?hq22 (Or.inl ⟨?hw22, ?hy22⟩) hS ?rest22
  case hi22 => simp only [List.getElem?_toArray, List.getElem?_cons_succ, List.getElem?_cons_zero]; rfl
  case hq22 => exact fun _ _ _ h => h
  case hw22 => rfl
  case hy22 => intro w hSw; (try dsimp only at hSw); go_simp; (try with_reducible rfl)
  try simp only [Act.put, List.setIfInBounds_toArray, List.set_cons_zero, List.set_cons_succ]
  refine wpAnyL_take (i := 27) (oi := ?oi23) (v := ?v23) ?hi23 (by kernel_rfl) (by kernel_rfl) (by kernel_rfl) (by kernel_rfl) (by kernel_rfl) ?hq23 (Or.inl ⟨?hw23, ?hy23⟩) hS ?rest23
  case hi23 => simp only [List.getElem?_toArray, List.getElem?_cons_succ, List.getElem?_cons_zero]; rfl
  case hq23 => exact fun _ _ _ h => h
  case hw23 => rfl
  case hy23 => intro w hSw; (try dsimp only at hSw); go_simp; (try with_reducible rfl)
  try simp only [Act.put, List.setIfInBounds_toArray, List.set_cons_zero, List.set_cons_succ]
  refine wpAnyL_take (i := 28) (oi := ?oi24) (v := ?v24) ?hi24 (by kernel_rfl) (by kernel_rfl) (by kernel_rfl) (by kernel_rfl) (by kernel_rfl) ?hq24 (Or.inl ⟨?hw24, ?hy24⟩) hS ?rest24
  case hi24 => simp only [List.getElem?_toArray, List.getElem?_cons_succ, List.getElem?_cons_zero]; rfl
  case hq24 => exact fun _ _ _ h => h
  case hw24 => rfl
  case hy24 => intro w hSw; (try dsimp only at hSw); go_simp; (try with_reducible rfl)
  try simp only [Act.put, List.setIfInBounds_toArray, List.set_cons_zero, List.set_cons_succ]
  refine wpAnyL_take (i := 29) (oi := ?oi25) (v := ?v25) ?hi25 (by kernel_rfl) (by kernel_rfl) (by kernel_rfl) (by kernel_rfl) (by kernel_rfl) ?hq25 (Or.inl ⟨?hw25, ?hy25⟩) hS ?rest25
  case hi25 => simp only [List.getElem?_toArray, List.getElem?_cons_succ, List.getElem?_cons_zero]; rfl
  case hq25 => exact fun _ _ _ h => h
  case hw25 => rfl
  case hy25 => intro w hSw; (try dsimp only at hSw); go_simp; (try with_reducible rfl)
  try simp only [Act.put, List.setIfInBounds_toArray, List.set_cons_zero, List.set_cons_succ]
  refine wpAnyL_take (i := 30) (oi := ?oi26) (v := ?v26) ?hi26 (by kernel_rfl) (by kernel_rfl) (by kernel_rfl) (by kernel_rfl) (by kernel_rfl) ?hq26 (Or.inl ⟨?hw26, ?hy26⟩) hS ?rest26
  case hi26 => simp only [List.getElem?_toArray, List.getElem?_cons_succ, List.getElem?_cons_zero]; rfl
  case hq26 => exact fun _ _ _ h => h
  case hw26 => rfl
  case hy26 => intro w hSw; (try dsimp only at hSw); go_simp; (try with_reducible rfl)
  try simp only [Act.put, List.setIfInBounds_toArray, List.set_cons_zero, List.set_cons_succ]
  refine wpAnyL_take (i := 31) (oi := ?oi27) (v := ?v27) ?hi27 (by kernel_rfl) (by kernel_rfl) (by kernel_rfl) (by kernel_rfl) (by kernel_rfl) ?hq27 (Or.inl ⟨?hw27, ?hy27⟩) hS ?rest27
  case hi27 => simp only [List.getElem?_toArray, List.getElem?_cons_succ, List.getElem?_cons_zero]; rfl
  case hq27 => exact fun _ _ _ h => h
  case hw27 => rfl
  case hy27 => intro w hSw; (try dsimp only at hSw); go_simp; (try with_reducible rfl)
  try simp only [Act.put, List.setIfInBounds_toArray, List.set_cons_zero, List.set_cons_succ]
  refine wpAnyL_take (i := 33) (oi := ?oi28) (v := ?v28) ?hi28 (by kernel_rfl) (by kernel_rfl) (by kernel_rfl) (by kernel_rfl) (by kernel_rfl) ?hq28 (Or.inl ⟨?hw28, ?hy28⟩) hS ?rest28
  case hi28 => simp only [List.getElem?_toArray, List.getElem?_cons_succ, List.getElem?_cons_zero]; rfl
  case hq28 => exact fun _ _ _ h => h
  case hw28 => rfl
  case hy28 => intro w hSw; (try dsimp only at hSw); go_simp; (try with_reducible rfl)
  try simp only [Act.put, List.setIfInBounds_toArray, List.set_cons_zero, List.set_cons_succ]
  refine wpAnyL_take (i := 34) (oi := ?oi29) (v := ?v29) ?hi29 (by kernel_rfl) (by kernel_rfl) (by kernel_rfl) (by kernel_rfl) (by kernel_rfl) ?hq29 (Or.inl ⟨?hw29, ?hy29⟩) hS ?rest29
  case hi29 => simp only [List.getElem?_toArray, List.getElem?_cons_succ, List.getElem?_cons_zero]; rfl
  case hq29 => exact fun _ _ _ h => h
  case hw29 => rfl
  case hy29 => intro w hSw; (try dsimp only at hSw); go_simp; (try with_reducible rfl)
  try simp only [Act.put, List.setIfInBounds_toArray, List.set_cons_zero, List.set_cons_succ]
  refine wpAnyL_ready (rs := [9, 37]) (by kernel_rfl) (by simp) ?_
  refine AllReadyL.cons (o := ?o30) ?ho30 (fun K hK => ?ca1) (AllReadyL.cons (o := ?o31) ?ho31 (fun K hK => ?cb1) AllReadyL.nil)
  case ho30 => simp only [List.getElem?_toArray, List.getElem?_cons_succ, List.getElem?_cons_zero]; rfl
  case ho31 => simp only [List.getElem?_toArray, List.getElem?_cons_succ, List.getElem?_cons_zero]; rfl
  go_simp
  (with_reducible refine (name_any _ HZ1.out w2.drew).mono ?_)
  rintro e x2 ⟨s1, hs2, rfl, hbx2⟩
  have HN1 := Lib.hid hs2
  have HBX2 : Hid (Below w2.heap.size w2 x2) := Lib.hid (Below.trans ((Below.refl w2.heap.size w2).drew) (hbx2.mono ((Below.refl w2.heap.size w2).drew).size))
  clear hs2 hbx2
  go_wp2_with fail
  refine hK.out _ _ (fun _ => HKP.out _ HBX2.out) (fun hS => ?_)
  replace hS := hS (by decide)
  clear hK K
  try simp only [Act.put, List.setIfInBounds_toArray, List.set_cons_zero, List.set_cons_succ]
  refine wpAnyL_ready (rs := [17, 37]) (by kernel_rfl) (by simp) ?_
  refine AllReadyL.cons (o := ?o32) ?ho32 (fun K hK => ?ca3) (AllReadyL.cons (o := ?o33) ?ho33 (fun K hK => ?cb3) AllReadyL.nil)
  case ho32 => simp only [List.getElem?_toArray, List.getElem?_cons_succ, List.getElem?_cons_zero]; rfl
  case ho33 => simp only [List.getElem?_toArray, List.getElem?_cons_succ, List.getElem?_cons_zero]; rfl
  go_simp
  (with_reducible refine (name_any _ HZ2.out x2).mono ?_)
  rintro e x4 ⟨s2, hs4, rfl, hbx4⟩
  have HN2 := Lib.hid hs4
  have HBX4 : Hid (Below w2.heap.size w2 x4) := Lib.hid (Below.trans (HBX2.out) (hbx4.mono (HBX2.out).size))
  clear hs4 hbx4
  go_wp2_with fail
  refine hK.out _ _ (fun _ => HKP.out _ HBX4.out) (fun hS => ?_)
  replace hS := hS (by decide)
  clear hK K
  try simp only [Act.put, List.setIfInBounds_toArray, List.set_cons_zero, List.set_cons_succ]
  refine wpAnyL_ready (rs := [20, 37]) (by kernel_rfl) (by simp) ?_
  refine AllReadyL.cons (o := ?o34) ?ho34 (fun K hK => ?ca5) (AllReadyL.cons (o := ?o35) ?ho35 (fun K hK => ?cb5) AllReadyL.nil)
  case ho34 => simp only [List.getElem?_toArray, List.getElem?_cons_succ, List.getElem?_cons_zero]; rfl
  case ho35 => simp only [List.getElem?_toArray, List.getElem?_cons_succ, List.getElem?_cons_zero]; rfl
  go_simp
  (with_reducible refine (within_any fd 0 3 x4 HX.out.wf (by omega) (by omega) (by omega)).mono ?_)
  rintro e _ ⟨rfl, rfl⟩
  go_wp2_with fail
  refine hK.out _ _ (fun _ => HKP.out _ (HBX4.out)) (fun hS => ?_)
  replace hS := hS (by decide)
  clear hK K
  try simp only [Act.put, List.setIfInBounds_toArray, List.set_cons_zero, List.set_cons_succ]
  refine wpAnyL_ready (rs := [23, 37]) (by kernel_rfl) (by simp) ?_
  refine AllReadyL.cons (o := ?o36) ?ho36 (fun K hK => ?ca7) (AllReadyL.cons (o := ?o37) ?ho37 (fun K hK => ?cb7) AllReadyL.nil)
  case ho36 => simp only [List.getElem?_toArray, List.getElem?_cons_succ, List.getElem?_cons_zero]; rfl
  case ho37 => simp only [List.getElem?_toArray, List.getElem?_cons_succ, List.getElem?_cons_zero]; rfl
  go_simp
  (with_reducible refine (within_any at_ 0 50 x4 HX.out.wa (by omega) (by omega) (by omega)).mono ?_)
  rintro e _ ⟨rfl, rfl⟩
  go_wp2_with fail
  refine hK.out _ _ (fun _ => HKP.out _ (HBX4.out)) (fun hS => ?_)
  replace hS := hS (by decide)
  clear hK K
  try simp only [Act.put, List.setIfInBounds_toArray, List.set_cons_zero, List.set_cons_succ]
  refine wpAnyL_ready (rs := [26, 37]) (by kernel_rfl) (by simp) ?_
  refine AllReadyL.cons (o := ?o38) ?ho38 (fun K hK => ?ca9) (AllReadyL.cons (o := ?o39) ?ho39 (fun K hK => ?cb9) AllReadyL.nil)
  case ho38 => simp only [List.getElem?_toArray, List.getElem?_cons_succ, List.getElem?_cons_zero]; rfl
  case ho39 => simp only [List.getElem?_toArray, List.getElem?_cons_succ, List.getElem?_cons_zero]; rfl
  go_simp
  (with_reducible refine (within_any nn 0 60 x4 HX.out.wn (by omega) (by omega) (by omega)).mono ?_)
  rintro e _ ⟨rfl, rfl⟩
  go_wp2_with fail
  refine hK.out _ _ (fun _ => HKP.out _ (HBX4.out)) (fun hS => ?_)
  replace hS := hS (by decide)
  clear hK K
  try simp only [Act.put, List.setIfInBounds_toArray, List.set_cons_zero, List.set_cons_succ]
  refine wpAnyL_ready (rs := [32, 37]) (by kernel_rfl) (by simp) ?_
  refine AllReadyL.cons (o := ?o40) ?ho40 (fun K hK => ?ca11) (AllReadyL.cons (o := ?o41) ?ho41 (fun K hK => ?cb11) AllReadyL.nil)
  case ho40 => simp only [List.getElem?_toArray, List.getElem?_cons_succ, List.getElem?_cons_zero]; rfl
  case ho41 => simp only [List.getElem?_toArray, List.getElem?_cons_succ, List.getElem?_cons_zero]; rfl
  go_simp
  (with_reducible refine (within_any sn 0 4 x4 HX.out.ws (by omega) (by omega) (by omega)).mono ?_)
  rintro e _ ⟨rfl, rfl⟩
  go_wp2_with fail
  refine hK.out _ _ (fun _ => HKP.out _ (HBX4.out)) (fun hS => ?_)
  replace hS := hS (by decide)
  clear hK K
  try simp only [Act.put, List.setIfInBounds_toArray, List.set_cons_zero, List.set_cons_succ]
  refine wpAnyL_ready (rs := [35, 37]) (by kernel_rfl) (by simp) ?_
  refine AllReadyL.cons (o := ?o42) ?ho42 (fun K hK => ?ca13) (AllReadyL.cons (o := ?o43) ?ho43 (fun K hK => ?cb13) AllReadyL.nil)
  case ho42 => simp only [List.getElem?_toArray, List.getElem?_cons_succ, List.getElem?_cons_zero]; rfl
  case ho43 => simp only [List.getElem?_toArray, List.getElem?_cons_succ, List.getElem?_cons_zero]; rfl
  go_simp
  (with_reducible refine (HCUT.out x4).mono ?_)
  rintro e _ ⟨rfl, rfl⟩
  go_wp2_with fail
  refine hK.out _ _ (fun _ => HKP.out _ (HBX4.out)) (fun hS => ?_)
  replace hS := hS (by decide)
  clear hK K
  try simp only [Act.put, List.setIfInBounds_toArray, List.set_cons_zero, List.set_cons_succ]
  refine wpAnyL_take (i := 36) (oi := ?oi44) (v := ?v44) ?hi44 (by kernel_rfl) (by kernel_rfl) (by kernel_rfl) (by kernel_rfl) (by kernel_rfl) ?hq44 (Or.inl ⟨?hw44, ?hy44⟩) hS ?rest44
  case hi44 => simp only [List.getElem?_toArray, List.getElem?_cons_succ, List.getElem?_cons_zero]; rfl
  case hq44 => exact fun _ _ _ h => h
  case hw44 => rfl
  case hy44 => intro w hSw; (try dsimp only at hSw); go_simp; (try with_reducible rfl)
  try simp only [Act.put, List.setIfInBounds_toArray, List.set_cons_zero, List.set_cons_succ]
  refine wpAnyL_ready (rs := [37]) (by kernel_rfl) (by simp) ?_
  refine AllReadyL.cons (o := ?o45) ?ho45 (fun K hK => ?_) AllReadyL.nil
  case ho45 => simp only [List.getElem?_toArray, List.getElem?_cons_succ, List.getElem?_cons_zero]; rfl
  go_simp
  have HBX15 : Hid (Below w2.heap.size w2 (x4.alloc (.cells #[.int .i64 0, .string ⟨#[]⟩, .string ⟨#[]⟩, .int .i64 0, .int .i64 0, .int .i64 0, .int .u64 0, .int .i64 0, .slice none 0 0] 36))) := Lib.hid (Below.alloc (HBX4.out) (Below.size (HBX4.out)) _)
  have HAX15 : Hid ((x4.alloc (.cells #[.int .i64 0, .string ⟨#[]⟩, .string ⟨#[]⟩, .int .i64 0, .int .i64 0, .int .i64 0, .int .u64 0, .int .i64 0, .slice none 0 0] 36)).heap[x4.heap.size]? = some (.cells #[.int .i64 0, .string ⟨#[]⟩, .string ⟨#[]⟩, .int .i64 0, .int .i64 0, .int .i64 0, .int .u64 0, .int .i64 0, .slice none 0 0] 36 (0, 0)) ∧ w2.heap.size ≤ x4.heap.size) := Lib.hid ⟨(MapKept.heap_alloc _ _).1, Below.size (HBX4.out)⟩
  refine hK.out _ _ (fun _ => HKP.out _ HBX15.out) (fun hS => ?_)
  replace hS := hS (by decide)
  clear hK K
  try simp only [Act.put, List.setIfInBounds_toArray, List.set_cons_zero, List.set_cons_succ]
  refine wpAnyL_ready (rs := [38]) (by kernel_rfl) (by simp) ?_
  refine AllReadyL.cons (o := ?o46) ?ho46 (fun K hK => ?_) AllReadyL.nil
  case ho46 => simp only [List.getElem?_toArray, List.getElem?_cons_succ, List.getElem?_cons_zero]; rfl
  refine step_store_rep rfl 36 _ _ rfl _ (opC ⟨kd, s1, s2, withinI fd 0 3, withinI at_ 0 50, withinI nn 0 60, til.tmod 12, withinI sn 0 4, d40⟩ da dc) rfl rfl _ HAX15.out.1 opSize rfl (opC_one _ _ _) ?_
  intro w5 hs5
  have HMID := Lib.hid (TameMid.of HB2.out HOP.out HRE.out (HBX15.out) HAX15.out.2 hs5)
  clear hs5
  refine hK.out _ _ (fun h => absurd rfl h) (fun hS => ?_)
  clear hS hK K
  try simp only [Act.put, List.setIfInBounds_toArray, List.set_cons_zero, List.set_cons_succ]
  refine wpAnyL_done (by kernel_rfl) ?_ _
  refine NoPanic.normal ?_
  refine (show Hid _ from ?_).out
  rotate_left
  go_simp
  have HBX16 : Hid (Below w2.heap.size w2 (x4.alloc (.cells #[.int .i64 0, .string ⟨#[]⟩, .string ⟨#[]⟩, .int .i64 0, .int .i64 0, .int .i64 0, .int .u64 0, .int .i64 0, .slice none 0 0] 36))) := Lib.hid (Below.alloc (HBX4.out) (Below.size (HBX4.out)) _)
  have HAX16 : Hid ((x4.alloc (.cells #[.int .i64 0, .string ⟨#[]⟩, .string ⟨#[]⟩, .int .i64 0, .int .i64 0, .int .i64 0, .int .u64 0, .int .i64 0, .slice none 0 0] 36)).heap[x4.heap.size]? = some (.cells #[.int .i64 0, .string ⟨#[]⟩, .string ⟨#[]⟩, .int .i64 0, .int .i64 0, .int .i64 0, .int .u64 0, .int .i64 0, .slice none 0 0] 36 (0, 0)) ∧ w2.heap.size ≤ x4.heap.size) := Lib.hid ⟨(MapKept.heap_alloc _ _).1, Below.size (HBX4.out)⟩
  refine hK.out _ _ (fun _ => HKP.out _ HBX16.out) (fun hS => ?_)
  replace hS := hS (by decide)
  clear hK K
  try simp only [Act.put, List.setIfInBounds_toArray, List.set_cons_zero, List.set_cons_succ]
  refine wpAnyL_ready (rs := [35]) (by kernel_rfl) (by simp) ?_
  refine AllReadyL.cons (o := ?o47) ?ho47 (fun K hK => ?_) AllReadyL.nil
  case ho47 => simp only [List.getElem?_toArray, List.getElem?_cons_succ, List.getElem?_cons_zero]; rfl
  go_simp
  (with_reducible refine (HCUT.out (x4.alloc (.cells #[.int .i64 0, .string ⟨#[]⟩, .string ⟨#[]⟩, .int .i64 0, .int .i64 0, .int .i64 0, .int .u64 0, .int .i64 0, .slice none 0 0] 36))).mono ?_)
  rintro e _ ⟨rfl, rfl⟩
  go_wp2_with fail
  refine hK.out _ _ (fun _ => HKP.out _ (HBX16.out)) (fun hS => ?_)
  replace hS := hS (by decide)
  clear hK K
  try simp only [Act.put, List.setIfInBounds_toArray, List.set_cons_zero, List.set_cons_succ]
  refine wpAnyL_take (i := 36) (oi := ?oi48) (v := ?v48) ?hi48 (by kernel_rfl) (by kernel_rfl) (by kernel_rfl) (by kernel_rfl) (by kernel_rfl) ?hq48 (Or.inl ⟨?hw48, ?hy48⟩) hS ?rest48
  case hi48 => simp only [List.getElem?_toArray, List.getElem?_cons_succ, List.getElem?_cons_zero]; rfl
  case hq48 => exact fun _ _ _ h => h
  case hw48 => rfl
  case hy48 => intro w hSw; (try dsimp only at hSw); go_simp; (try with_reducible rfl)
  try simp only [Act.put, List.setIfInBounds_toArray, List.set_cons_zero, List.set_cons_succ]
  refine wpAnyL_ready (rs := [38]) (by kernel_rfl) (by simp) ?_
  refine AllReadyL.cons (o := ?o49) ?ho49 (fun K hK => ?_) AllReadyL.nil
  case ho49 => simp only [List.getElem?_toArray, List.getElem?_cons_succ, List.getElem?_cons_zero]; rfl
  refine step_store_rep rfl 36 _ _ rfl _ (opC ⟨kd, s1, s2, withinI fd 0 3, withinI at_ 0 50, withinI nn 0 60, til.tmod 12, withinI sn 0 4, d40⟩ da dc) rfl rfl _ HAX16.out.1 opSize rfl (opC_one _ _ _) ?_
  intro w5 hs5
  have HMID := Lib.hid (TameMid.of HB2.out HOP.out HRE.out (HBX16.out) HAX16.out.2 hs5)
  clear hs5
  refine hK.out _ _ (fun h => absurd rfl h) (fun hS => ?_)
  clear hS hK K
  try simp only [Act.put, List.setIfInBounds_toArray, List.set_cons_zero, List.set_cons_succ]
  refine wpAnyL_done (by kernel_rfl) ?_ _
  refine NoPanic.normal ?_
  refine (show Hid _ from ?_).out
  rotate_left
  go_simp
  have HBX18 : Hid (Below w2.heap.size w2 (x4.alloc (.cells #[.int .i64 0, .string ⟨#[]⟩, .string ⟨#[]⟩, .int .i64 0, .int .i64 0, .int .i64 0, .int .u64 0, .int .i64 0, .slice none 0 0] 36))) := Lib.hid (Below.alloc (HBX4.out) (Below.size (HBX4.out)) _)
  have HAX18 : Hid ((x4.alloc (.cells #[.int .i64 0, .string ⟨#[]⟩, .string ⟨#[]⟩, .int .i64 0, .int .i64 0, .int .i64 0, .int .u64 0, .int .i64 0, .slice none 0 0] 36)).heap[x4.heap.size]? = some (.cells #[.int .i64 0, .string ⟨#[]⟩, .string ⟨#[]⟩, .int .i64 0, .int .i64 0, .int .i64 0, .int .u64 0, .int .i64 0, .slice none 0 0] 36 (0, 0)) ∧ w2.heap.size ≤ x4.heap.size) := Lib.hid ⟨(MapKept.heap_alloc _ _).1, Below.size (HBX4.out)⟩
  refine hK.out _ _ (fun _ => HKP.out _ HBX18.out) (fun hS => ?_)
  replace hS := hS (by decide)
  clear hK K
  try simp only [Act.put, List.setIfInBounds_toArray, List.set_cons_zero, List.set_cons_succ]
  refine wpAnyL_ready (rs := [32]) (by kernel_rfl) (by simp) ?_
  refine AllReadyL.cons (o := ?o50) ?ho50 (fun K hK => ?_) AllReadyL.nil
  case ho50 => simp only [List.getElem?_toArray, List.getElem?_cons_succ, List.getElem?_cons_zero]; rfl
  go_simp
  (with_reducible refine (within_any sn 0 4 (x4.alloc (.cells #[.int .i64 0, .string ⟨#[]⟩, .string ⟨#[]⟩, .int .i64 0, .int .i64 0, .int .i64 0, .int .u64 0, .int .i64 0, .slice none 0 0] 36)) HX.out.ws (by omega) (by omega) (by omega)).mono ?_)
  rintro e _ ⟨rfl, rfl⟩
  go_wp2_with fail
  refine hK.out _ _ (fun _ => HKP.out _ (HBX18.out)) (fun hS => ?_)
  replace hS := hS (by decide)
  clear hK K
  try simp only [Act.put, List.setIfInBounds_toArray, List.set_cons_zero, List.set_cons_succ]
  refine wpAnyL_ready (rs := [35]) (by kernel_rfl) (by simp) ?_
  refine AllReadyL.cons (o := ?o51) ?ho51 (fun K hK => ?_) AllReadyL.nil
  case ho51 => simp only [List.getElem?_toArray, List.getElem?_cons_succ, List.getElem?_cons_zero]; rfl
  go_simp
  (with_reducible refine (HCUT.out (x4.alloc (.cells #[.int .i64 0, .string ⟨#[]⟩, .string ⟨#[]⟩, .int .i64 0, .int .i64 0, .int .i64 0, .int .u64 0, .int .i64 0, .slice none 0 0] 36))).mono ?_)
  rintro e _ ⟨rfl, rfl⟩
  go_wp2_with fail
  refine hK.out _ _ (fun _ => HKP.out _ (HBX18.out)) (fun hS => ?_)
  replace hS := hS (by decide)
  clear hK K
  try simp only [Act.put, List.setIfInBounds_toArray, List.set_cons_zero, List.set_cons_succ]
  refine wpAnyL_take (i := 36) (oi := ?oi52) (v := ?v52) ?hi52 (by kernel_rfl) (by kernel_rfl) (by kernel_rfl) (by kernel_rfl) (by kernel_rfl) ?hq52 (Or.inl ⟨?hw52, ?hy52⟩) hS ?rest52
  case hi52 => simp only [List.getElem?_toArray, List.getElem?_cons_succ, List.getElem?_cons_zero]; rfl
  case hq52 => exact fun _ _ _ h => h
  case hw52 => rfl
  case hy52 => intro w hSw; (try dsimp only at hSw); go_simp; (try with_reducible rfl)
  try simp only [Act.put, List.setIfInBounds_toArray, List.set_cons_zero, List.set_cons_succ]
  refine wpAnyL_ready (rs := [38]) (by kernel_rfl) (by simp) ?_
  refine AllReadyL.cons (o := ?o53) ?ho53 (fun K hK => ?_) AllReadyL.nil
  case ho53 => simp only [List.getElem?_toArray, List.getElem?_cons_succ, List.getElem?_cons_zero]; rfl
  refine step_store_rep rfl 36 _ _ rfl _ (opC ⟨kd, s1, s2, withinI fd 0 3, withinI at_ 0 50, withinI nn 0 60, til.tmod 12, withinI sn 0 4, d40⟩ da dc) rfl rfl _ HAX18.out.1 opSize rfl (opC_one _ _ _) ?_
  intro w5 hs5
  have HMID := Lib.hid (TameMid.of HB2.out HOP.out HRE.out (HBX18.out) HAX18.out.2 hs5)
  clear hs5
  refine hK.out _ _ (fun h => absurd rfl h) (fun hS => ?_)
  clear hS hK K
  try simp only [Act.put, List.setIfInBounds_toArray, List.set_cons_zero, List.set_cons_succ]
  refine wpAnyL_done (by kernel_rfl) ?_ _
  refine NoPanic.normal ?_
  refine (show Hid _ from ?_).out
  rotate_left
  go_simp
  have HBX21 : Hid (Below w2.heap.size w2 (x4.alloc (.cells #[.int .i64 0, .string ⟨#[]⟩, .string ⟨#[]⟩, .int .i64 0, .int .i64 0, .int .i64 0, .int .u64 0, .int .i64 0, .slice none 0 0] 36))) := Lib.hid (Below.alloc (HBX4.out) (Below.size (HBX4.out)) _)
  have HAX21 : Hid ((x4.alloc (.cells #[.int .i64 0, .string ⟨#[]⟩, .string ⟨#[]⟩, .int .i64 0, .int .i64 0, .int .i64 0, .int .u64 0, .int .i64 0, .slice none 0 0] 36)).heap[x4.heap.size]? = some (.cells #[.int .i64 0, .string ⟨#[]⟩, .string ⟨#[]⟩, .int .i64 0, .int .i64 0, .int .i64 0, .int .u64 0, .int .i64 0, .slice none 0 0] 36 (0, 0)) ∧ w2.heap.size ≤ x4.heap.size) := Lib.hid ⟨(MapKept.heap_alloc _ _).1, Below.size (HBX4.out)⟩
  refine hK.out _ _ (fun _ => HKP.out _ HBX21.out) (fun hS => ?_)
  replace hS := hS (by decide)
  clear hK K
  try simp only [Act.put, List.setIfInBounds_toArray, List.set_cons_zero, List.set_cons_succ]
  refine wpAnyL_ready (rs := [26]) (by kernel_rfl) (by simp) ?_
  refine AllReadyL.cons (o := ?o54) ?ho54 (fun K hK => ?_) AllReadyL.nil
  case ho54 => simp only [List.getElem?_toArray, List.getElem?_cons_succ, List.getElem?_cons_zero]; rfl
  go_simp
  (with_reducible refine (within_any nn 0 60 (x4.alloc (.cells #[.int .i64 0, .string ⟨#[]⟩, .string ⟨#[]⟩, .int .i64 0, .int .i64 0, .int .i64 0, .int .u64 0, .int .i64 0, .slice none 0 0] 36)) HX.out.wn (by omega) (by omega) (by omega)).mono ?_)
  rintro e _ ⟨rfl, rfl⟩
  go_wp2_with fail
  refine hK.out _ _ (fun _ => HKP.out _ (HBX21.out)) (fun hS => ?_)
  replace hS := hS (by decide)
  clear hK K
  try simp only [Act.put, List.setIfInBounds_toArray, List.set_cons_zero, List.set_cons_succ]
  refine wpAnyL_ready (rs := [32]) (by kernel_rfl) (by simp) ?_
  refine AllReadyL.cons (o := ?o55) ?ho55 (fun K hK => ?_) AllReadyL.nil
  case ho55 => simp only [List.getElem?_toArray, List.getElem?_cons_succ, List.getElem?_cons_zero]; rfl
  go_simp
  (with_reducible refine (within_any sn 0 4 (x4.alloc (.cells #[.int .i64 0, .string ⟨#[]⟩, .string ⟨#[]⟩, .int .i64 0, .int .i64 0, .int .i64 0, .int .u64 0, .int .i64 0, .slice none 0 0] 36)) HX.out.ws (by omega) (by omega) (by omega)).mono ?_)
  rintro e _ ⟨rfl, rfl⟩
  go_wp2_with fail
  refine hK.out _ _ (fun _ => HKP.out _ (HBX21.out)) (fun hS => ?_)
  replace hS := hS (by decide)
  clear hK K
  try simp only [Act.put, List.setIfInBounds_toArray, List.set_cons_zero, List.set_cons_succ]
  refine wpAnyL_ready (rs := [35]) (by kernel_rfl) (by simp) ?_
  refine AllReadyL.cons (o := ?o56) ?ho56 (fun K hK => ?_) AllReadyL.nil
  case ho56 => simp only [List.getElem?_toArray, List.getElem?_cons_succ, List.getElem?_cons_zero]; rfl
  go_simp
  (with_reducible refine (HCUT.out (x4.alloc (.cells #[.int .i64 0, .string ⟨#[]⟩, .string ⟨#[]⟩, .int .i64 0, .int .i64 0, .int .i64 0, .int .u64 0, .int .i64 0, .slice none 0 0] 36))).mono ?_)
  rintro e _ ⟨rfl, rfl⟩
  go_wp2_with fail
  refine hK.out _ _ (fun _ => HKP.out _ (HBX21.out)) (fun hS => ?_)
  replace hS := hS (by decide)
  clear hK K
  try simp only [Act.put, List.setIfInBounds_toArray, List.set_cons_zero, List.set_cons_succ]
  refine wpAnyL_take (i := 36) (oi := ?oi57) (v := ?v57) ?hi57 (by kernel_rfl) (by kernel_rfl) (by kernel_rfl) (by kernel_rfl) (by kernel_rfl) ?hq57 (Or.inl ⟨?hw57, ?hy57⟩) hS ?rest57
  case hi57 => simp only [List.getElem?_toArray, List.getElem?_cons_succ, List.getElem?_cons_zero]; rfl
  case hq57 => exact fun _ _ _ h => h
  case hw57 => rfl
  case hy57 => intro w hSw; (try dsimp only at hSw); go_simp; (try with_reducible rfl)
  try simp only [Act.put, List.setIfInBounds_toArray, List.set_cons_zero, List.set_cons_succ]
  refine wpAnyL_ready (rs := [38]) (by kernel_rfl) (by simp) ?_
  refine AllReadyL.cons (o := ?o58) ?ho58 (fun K hK => ?_) AllReadyL.nil
  case ho58 => simp only [List.getElem?_toArray, List.getElem?_cons_succ, List.getElem?_cons_zero]; rfl
  refine step_store_rep rfl 36 _ _ rfl _ (opC ⟨kd, s1, s2, withinI fd 0 3, withinI at_ 0 50, withinI nn 0 60, til.tmod 12, withinI sn 0 4, d40⟩ da dc) rfl rfl _ HAX21.out.1 opSize rfl (opC_one _ _ _) ?_
  intro w5 hs5
  have HMID := Lib.hid (TameMid.of HB2.out HOP.out HRE.out (HBX21.out) HAX21.out.2 hs5)
  clear hs5
  refine hK.out _ _ (fun h => absurd rfl h) (fun hS => ?_)
  clear hS hK K
  try simp only [Act.put, List.setIfInBounds_toArray, List.set_cons_zero, List.set_cons_succ]
  refine wpAnyL_done (by kernel_rfl) ?_ _
  refine NoPanic.normal ?_
  refine (show Hid _ from ?_).out
  rotate_left
  go_simp
  have HBX25 : Hid (Below w2.heap.size w2 (x4.alloc (.cells #[.int .i64 0, .string ⟨#[]⟩, .string ⟨#[]⟩, .int .i64 0, .int .i64 0, .int .i64 0, .int .u64 0, .int .i64 0, .slice none 0 0] 36))) := Lib.hid (Below.alloc (HBX4.out) (Below.size (HBX4.out)) _)
  have HAX25 : Hid ((x4.alloc (.cells #[.int .i64 0, .string ⟨#[]⟩, .string ⟨#[]⟩, .int .i64 0, .int .i64 0, .int .i64 0, .int .u64 0, .int .i64 0, .slice none 0 0] 36)).heap[x4.heap.size]? = some (.cells #[.int .i64 0, .string ⟨#[]⟩, .string ⟨#[]⟩, .int .i64 0, .int .i64 0, .int .i64 0, .int .u64 0, .int .i64 0, .slice none 0 0] 36 (0, 0)) ∧ w2.heap.size ≤ x4.heap.size) := Lib.hid ⟨(MapKept.heap_alloc _ _).1, Below.size (HBX4.out)⟩
  refine hK.out _ _ (fun _ => HKP.out _ HBX25.out) (fun hS => ?_)
  replace hS := hS (by decide)
  clear hK K
  try simp only [Act.put, List.setIfInBounds_toArray, List.set_cons_zero, List.set_cons_succ]
  refine wpAnyL_ready (rs := [23]) (by kernel_rfl) (by simp) ?_
  refine AllReadyL.cons (o := ?o59) ?ho59 (fun K hK => ?_) AllReadyL.nil
  case ho59 => simp only [List.getElem?_toArray, List.getElem?_cons_succ, List.getElem?_cons_zero]; rfl
  go_simp
  (with_reducible refine (within_any at_ 0 50 (x4.alloc (.cells #[.int .i64 0, .string ⟨#[]⟩, .string ⟨#[]⟩, .int .i64 0, .int .i64 0, .int .i64 0, .int .u64 0, .int .i64 0, .slice none 0 0] 36)) HX.out.wa (by omega) (by omega) (by omega)).mono ?_)
  rintro e _ ⟨rfl, rfl⟩
  go_wp2_with fail
  refine hK.out _ _ (fun _ => HKP.out _ (HBX25.out)) (fun hS => ?_)
  replace hS := hS (by decide)
  clear hK K
  try simp only [Act.put, List.setIfInBounds_toArray, List.set_cons_zero, List.set_cons_succ]
  refine wpAnyL_ready (rs := [26]) (by kernel_rfl) (by simp) ?_
  refine AllReadyL.cons (o := ?o60) ?ho60 (fun K hK => ?_) AllReadyL.nil
  case ho60 => simp only [List.getElem?_toArray, List.getElem?_cons_succ, List.getElem?_cons_zero]; rfl
  go_simp
  (with_reducible refine (within_any nn 0 60 (x4.alloc (.cells #[.int .i64 0, .string ⟨#[]⟩, .string ⟨#[]⟩, .int .i64 0, .int .i64 0, .int .i64 0, .int .u64 0, .int .i64 0, .slice none 0 0] 36)) HX.out.wn (by omega) (by omega) (by omega)).mono ?_)
  rintro e _ ⟨rfl, rfl⟩
  go_wp2_with fail
  refine hK.out _ _ (fun _ => HKP.out _ (HBX25.out)) (fun hS => ?_)
  replace hS := hS (by decide)
  clear hK K
  try simp only [Act.put, List.setIfInBounds_toArray, List.set_cons_zero, List.set_cons_succ]
  refine wpAnyL_ready (rs := [32]) (by kernel_rfl) (by simp) ?_
  refine AllReadyL.cons (o := ?o61) ?ho61 (fun K hK => ?_) AllReadyL.nil
  case ho61 => simp only [List.getElem?_toArray, List.getElem?_cons_succ, List.getElem?_cons_zero]; rfl
  go_simp
  (with_reducible refine (within_any sn 0 4 (x4.alloc (.cells #[.int .i64 0, .string ⟨#[]⟩, .string ⟨#[]⟩, .int .i64 0, .int .i64 0, .int .i64 0, .int .u64 0, .int .i64 0, .slice none 0 0] 36)) HX.out.ws (by omega) (by omega) (by omega)).mono ?_)
  rintro e _ ⟨rfl, rfl⟩
  go_wp2_with fail
  refine hK.out _ _ (fun _ => HKP.out _ (HBX25.out)) (fun hS => ?_)
  replace hS := hS (by decide)
  clear hK K
  try simp only [Act.put, List.setIfInBounds_toArray, List.set_cons_zero, List.set_cons_succ]
  refine wpAnyL_ready (rs := [35]) (by kernel_rfl) (by simp) ?_
  refine AllReadyL.cons (o := ?o62) ?ho62 (fun K hK => ?_) AllReadyL.nil
  case ho62 => simp only [List.getElem?_toArray, List.getElem?_cons_succ, List.getElem?_cons_zero]; rfl
  go_simp
  (with_reducible refine (HCUT.out (x4.alloc (.cells #[.int .i64 0, .string ⟨#[]⟩, .string ⟨#[]⟩, .int .i64 0, .int .i64 0, .int .i64 0, .int .u64 0, .int .i64 0, .slice none 0 0] 36))).mono ?_)
  rintro e _ ⟨rfl, rfl⟩
  go_wp2_with fail
  refine hK.out _ _ (fun _ => HKP.out _ (HBX25.out)) (fun hS => ?_)
  replace hS := hS (by decide)
  clear hK K
  try simp only [Act.put, List.setIfInBounds_toArray, List.set_cons_zero, List.set_cons_succ]
  refine wpAnyL_take (i := 36) (oi := ?oi63) (v := ?v63) ?hi63 (by kernel_rfl) (by kernel_rfl) (by kernel_rfl) (by kernel_rfl) (by kernel_rfl) ?hq63 (Or.inl ⟨?hw63, ?hy63⟩) hS ?rest63
  case hi63 => simp only [List.getElem?_toArray, List.getElem?_cons_succ, List.getElem?_cons_zero]; rfl
  case hq63 => exact fun _ _ _ h => h
  case hw63 => rfl
  case hy63 => intro w hSw; (try dsimp only at hSw); go_simp; (try with_reducible rfl)
  try simp only [Act.put, List.setIfInBounds_toArray, List.set_cons_zero, List.set_cons_succ]
  refine wpAnyL_ready (rs := [38]) (by kernel_rfl) (by simp) ?_
  refine AllReadyL.cons (o := ?o64) ?ho64 (fun K hK => ?_) AllReadyL.nil
  case ho64 => simp only [List.getElem?_toArray, List.getElem?_cons_succ, List.getElem?_cons_zero]; rfl
  refine step_store_rep rfl 36 _ _ rfl _ (opC ⟨kd, s1, s2, withinI fd 0 3, withinI at_ 0 50, withinI nn 0 60, til.tmod 12, withinI sn 0 4, d40⟩ da dc) rfl rfl _ HAX25.out.1 opSize rfl (opC_one _ _ _) ?_
  intro w5 hs5
  have HMID := Lib.hid (TameMid.of HB2.out HOP.out HRE.out (HBX25.out) HAX25.out.2 hs5)
  clear hs5
  refine hK.out _ _ (fun h => absurd rfl h) (fun hS => ?_)
  clear hS hK K
  try simp only [Act.put, List.setIfInBounds_toArray, List.set_cons_zero, List.set_cons_succ]
  refine wpAnyL_done (by kernel_rfl) ?_ _
  refine NoPanic.normal ?_
  refine (show Hid _ from ?_).out
  rotate_left
  go_simp
  have HBX30 : Hid (Below w2.heap.size w2 (x4.alloc (.cells #[.int .i64 0, .string ⟨#[]⟩, .string ⟨#[]⟩, .int .i64 0, .int .i64 0, .int .i64 0, .int .u64 0, .int .i64 0, .slice none 0 0] 36))) := Lib.hid (Below.alloc (HBX4.out) (Below.size (HBX4.out)) _)
  have HAX30 : Hid ((x4.alloc (.cells #[.int .i64 0, .string ⟨#[]⟩, .string ⟨#[]⟩, .int .i64 0, .int .i64 0, .int .i64 0, .int .u64 0, .int .i64 0, .slice none 0 0] 36)).heap[x4.heap.size]? = some (.cells #[.int .i64 0, .string ⟨#[]⟩, .string ⟨#[]⟩, .int .i64 0, .int .i64 0, .int .i64 0, .int .u64 0, .int .i64 0, .slice none 0 0] 36 (0, 0)) ∧ w2.heap.size ≤ x4.heap.size) := Lib.hid ⟨(MapKept.heap_alloc _ _).1, Below.size (HBX4.out)⟩
  refine hK.out _ _ (fun _ => HKP.out _ HBX30.out) (fun hS => ?_)
  replace hS := hS (by decide)
  clear hK K
  try simp only [Act.put, List.setIfInBounds_toArray, List.set_cons_zero, List.set_cons_succ]
  refine wpAnyL_ready (rs := [20]) (by kernel_rfl) (by simp) ?_
  refine AllReadyL.cons (o := ?o65) ?ho65 (fun K hK => ?_) AllReadyL.nil
  case ho65 => simp only [List.getElem?_toArray, List.getElem?_cons_succ, List.getElem?_cons_zero]; rfl
  go_simp
  (with_reducible refine (within_any fd 0 3 (x4.alloc (.cells #[.int .i64 0, .string ⟨#[]⟩, .string ⟨#[]⟩, .int .i64 0, .int .i64 0, .int .i64 0, .int .u64 0, .int .i64 0, .slice none 0 0] 36)) HX.out.wf (by omega) (by omega) (by omega)).mono ?_)
  rintro e _ ⟨rfl, rfl⟩
  go_wp2_with fail
  refine hK.out _ _ (fun _ => HKP.out _ (HBX30.out)) (fun hS => ?_)
  replace hS := hS (by decide)
  clear hK K
  try simp only [Act.put, List.setIfInBounds_toArray, List.set_cons_zero, List.set_cons_succ]
  refine wpAnyL_ready (rs := [23]) (by kernel_rfl) (by simp) ?_
  refine AllReadyL.cons (o := ?o66) ?ho66 (fun K hK => ?_) AllReadyL.nil
  case ho66 => simp only [List.getElem?_toArray, List.getElem?_cons_succ, List.getElem?_cons_zero]; rfl
  go_simp
  (with_reducible refine (within_any at_ 0 50 (x4.alloc (.cells #[.int .i64 0, .string ⟨#[]⟩, .string ⟨#[]⟩, .int .i64 0, .int .i64 0, .int .i64 0, .int .u64 0, .int .i64 0, .slice none 0 0] 36)) HX.out.wa (by omega) (by omega) (by omega)).mono ?_)
  rintro e _ ⟨rfl, rfl⟩
  go_wp2_with fail
  refine hK.out _ _ (fun _ => HKP.out _ (HBX30.out)) (fun hS => ?_)
  replace hS := hS (by decide)
  clear hK K
  try simp only [Act.put, List.setIfInBounds_toArray, List.set_cons_zero, List.set_cons_succ]
  refine wpAnyL_ready (rs := [26]) (by kernel_rfl) (by simp) ?_
  refine AllReadyL.cons (o := ?o67) ?ho67 (fun K hK => ?_) AllReadyL.nil
  case ho67 => simp only [List.getElem?_toArray, List.getElem?_cons_succ, List.getElem?_cons_zero]; rfl
  go_simp
  (with_reducible refine (within_any nn 0 60 (x4.alloc (.cells #[.int .i64 0, .string ⟨#[]⟩, .string ⟨#[]⟩, .int .i64 0, .int .i64 0, .int .i64 0, .int .u64 0, .int .i64 0, .slice none 0 0] 36)) HX.out.wn (by omega) (by omega) (by omega)).mono ?_)
  rintro e _ ⟨rfl, rfl⟩
  go_wp2_with fail
  refine hK.out _ _ (fun _ => HKP.out _ (HBX30.out)) (fun hS => ?_)
  replace hS := hS (by decide)
  clear hK K
  try simp only [Act.put, List.setIfInBounds_toArray, List.set_cons_zero, List.set_cons_succ]
  refine wpAnyL_ready (rs := [32]) (by kernel_rfl) (by simp) ?_
  refine AllReadyL.cons (o := ?o68) ?ho68 (fun K hK => ?_) AllReadyL.nil
  case ho68 => simp only [List.getElem?_toArray, List.getElem?_cons_succ, List.getElem?_cons_zero]; rfl
  go_simp
  (with_reducible refine (within_any sn 0 4 (x4.alloc (.cells #[.int .i64 0, .string ⟨#[]⟩, .string ⟨#[]⟩, .int .i64 0, .int .i64 0, .int .i64 0, .int .u64 0, .int .i64 0, .slice none 0 0] 36)) HX.out.ws (by omega) (by omega) (by omega)).mono ?_)
  rintro e _ ⟨rfl, rfl⟩
  go_wp2_with fail
  refine hK.out _ _ (fun _ => HKP.out _ (HBX30.out)) (fun hS => ?_)
  replace hS := hS (by decide)
  clear hK K
  try simp only [Act.put, List.setIfInBounds_toArray, List.set_cons_zero, List.set_cons_succ]
  refine wpAnyL_ready (rs := [35]) (by kernel_rfl) (by simp) ?_
  refine AllReadyL.cons (o := ?o69) ?ho69 (fun K hK => ?_) AllReadyL.nil
  case ho69 => simp only [List.getElem?_toArray, List.getElem?_cons_succ, List.getElem?_cons_zero]; rfl
  go_simp
  (with_reducible refine (HCUT.out (x4.alloc (.cells #[.int .i64 0, .string ⟨#[]⟩, .string ⟨#[]⟩, .int .i64 0, .int .i64 0, .int .i64 0, .int .u64 0, .int .i64 0, .slice none 0 0] 36))).mono ?_)
  rintro e _ ⟨rfl, rfl⟩
  go_wp2_with fail
  refine hK.out _ _ (fun _ => HKP.out _ (HBX30.out)) (fun hS => ?_)
  replace hS := hS (by decide)
  clear hK K
  try simp only [Act.put, List.setIfInBounds_toArray, List.set_cons_zero, List.set_cons_succ]
  refine wpAnyL_take (i := 36) (oi := ?oi70) (v := ?v70) ?hi70 (by kernel_rfl) (by kernel_rfl) (by kernel_rfl) (by kernel_rfl) (by kernel_rfl) ?hq70 (Or.inl ⟨?hw70, ?hy70⟩) hS ?rest70
  case hi70 => simp only [List.getElem?_toArray, List.getElem?_cons_succ, List.getElem?_cons_zero]; rfl
  case hq70 => exact fun _ _ _ h => h
  case hw70 => rfl
  case hy70 => intro w hSw; (try dsimp only at hSw); go_simp; (try with_reducible rfl)
  try simp only [Act.put, List.setIfInBounds_toArray, List.set_cons_zero, List.set_cons_succ]
  refine wpAnyL_ready (rs := [38]) (by kernel_rfl) (by simp) ?_
  refine AllReadyL.cons (o := ?o71) ?ho71 (fun K hK => ?_) AllReadyL.nil
  case ho71 => simp only [List.getElem?_toArray, List.getElem?_cons_succ, List.getElem?_cons_zero]; rfl
  refine step_store_rep rfl 36 _ _ rfl _ (opC ⟨kd, s1, s2, withinI fd 0 3, withinI at_ 0 50, withinI nn 0 60, til.tmod 12, withinI sn 0 4, d40⟩ da dc) rfl rfl _ HAX30.out.1 opSize rfl (opC_one _ _ _) ?_
  intro w5 hs5
  have HMID := Lib.hid (TameMid.of HB2.out HOP.out HRE.out (HBX30.out) HAX30.out.2 hs5)
  clear hs5
  refine hK.out _ _ (fun h => absurd rfl h) (fun hS => ?_)
  clear hS hK K
  try simp only [Act.put, List.setIfInBounds_toArray, List.set_cons_zero, List.set_cons_succ]
  refine wpAnyL_done (by kernel_rfl) ?_ _
  refine NoPanic.normal ?_
  refine (show Hid _ from ?_).out
  rotate_left
  go_simp
  have HBX36 : Hid (Below w2.heap.size w2 (x2.alloc (.cells #[.int .i64 0, .string ⟨#[]⟩, .string ⟨#[]⟩, .int .i64 0, .int .i64 0, .int .i64 0, .int .u64 0, .int .i64 0, .slice none 0 0] 36))) := Lib.hid (Below.alloc (HBX2.out) (Below.size (HBX2.out)) _)
  have HAX36 : Hid ((x2.alloc (.cells #[.int .i64 0, .string ⟨#[]⟩, .string ⟨#[]⟩, .int .i64 0, .int .i64 0, .int .i64 0, .int .u64 0, .int .i64 0, .slice none 0 0] 36)).heap[x2.heap.size]? = some (.cells #[.int .i64 0, .string ⟨#[]⟩, .string ⟨#[]⟩, .int .i64 0, .int .i64 0, .int .i64 0, .int .u64 0, .int .i64 0, .slice none 0 0] 36 (0, 0)) ∧ w2.heap.size ≤ x2.heap.size) := Lib.hid ⟨(MapKept.heap_alloc _ _).1, Below.size (HBX2.out)⟩
  refine hK.out _ _ (fun _ => HKP.out _ HBX36.out) (fun hS => ?_)
  replace hS := hS (by decide)
  clear hK K
  try simp only [Act.put, List.setIfInBounds_toArray, List.set_cons_zero, List.set_cons_succ]
  refine wpAnyL_ready (rs := [17]) (by kernel_rfl) (by simp) ?_
  refine AllReadyL.cons (o := ?o72) ?ho72 (fun K hK => ?_) AllReadyL.nil
  case ho72 => simp only [List.getElem?_toArray, List.getElem?_cons_succ, List.getElem?_cons_zero]; rfl
  go_simp
  (with_reducible refine (name_any _ HZ2.out (x2.alloc (.cells #[.int .i64 0, .string ⟨#[]⟩, .string ⟨#[]⟩, .int .i64 0, .int .i64 0, .int .i64 0, .int .u64 0, .int .i64 0, .slice none 0 0] 36))).mono ?_)
  rintro e x37 ⟨s2, hs37, rfl, hbx37⟩
  have HN2 := Lib.hid hs37
  have HBX37 : Hid (Below w2.heap.size w2 x37) := Lib.hid (Below.trans (HBX36.out) (hbx37.mono (HBX36.out).size))
  have HAX37 : Hid (x37.heap[x2.heap.size]? = some (.cells #[.int .i64 0, .string ⟨#[]⟩, .string ⟨#[]⟩, .int .i64 0, .int .i64 0, .int .i64 0, .int .u64 0, .int .i64 0, .slice none 0 0] 36 (0, 0)) ∧ w2.heap.size ≤ x2.heap.size) := Lib.hid ⟨(hbx37.block _ (Array.getElem?_eq_some_iff.1 HAX36.out.1).1).trans HAX36.out.1, HAX36.out.2⟩
  clear hs37 hbx37
  go_wp2_with fail
  refine hK.out _ _ (fun _ => HKP.out _ HBX37.out) (fun hS => ?_)
  replace hS := hS (by decide)
  clear hK K
  try simp only [Act.put, List.setIfInBounds_toArray, List.set_cons_zero, List.set_cons_succ]
  refine wpAnyL_ready (rs := [20]) (by kernel_rfl) (by simp) ?_
  refine AllReadyL.cons (o := ?o73) ?ho73 (fun K hK => ?_) AllReadyL.nil
  case ho73 => simp only [List.getElem?_toArray, List.getElem?_cons_succ, List.getElem?_cons_zero]; rfl
  go_simp
  (with_reducible refine (within_any fd 0 3 x37 HX.out.wf (by omega) (by omega) (by omega)).mono ?_)
  rintro e _ ⟨rfl, rfl⟩
  go_wp2_with fail
  refine hK.out _ _ (fun _ => HKP.out _ (HBX37.out)) (fun hS => ?_)
  replace hS := hS (by decide)
  clear hK K
  try simp only [Act.put, List.setIfInBounds_toArray, List.set_cons_zero, List.set_cons_succ]
  refine wpAnyL_ready (rs := [23]) (by kernel_rfl) (by simp) ?_
  refine AllReadyL.cons (o := ?o74) ?ho74 (fun K hK => ?_) AllReadyL.nil
  case ho74 => simp only [List.getElem?_toArray, List.getElem?_cons_succ, List.getElem?_cons_zero]; rfl
  go_simp
  (with_reducible refine (within_any at_ 0 50 x37 HX.out.wa (by omega) (by omega) (by omega)).mono ?_)
  rintro e _ ⟨rfl, rfl⟩
  go_wp2_with fail
  refine hK.out _ _ (fun _ => HKP.out _ (HBX37.out)) (fun hS => ?_)
  replace hS := hS (by decide)
  clear hK K
  try simp only [Act.put, List.setIfInBounds_toArray, List.set_cons_zero, List.set_cons_succ]
  refine wpAnyL_ready (rs := [26]) (by kernel_rfl) (by simp) ?_
  refine AllReadyL.cons (o := ?o75) ?ho75 (fun K hK => ?_) AllReadyL.nil
  case ho75 => simp only [List.getElem?_toArray, List.getElem?_cons_succ, List.getElem?_cons_zero]; rfl
  go_simp
  (with_reducible refine (within_any nn 0 60 x37 HX.out.wn (by omega) (by omega) (by omega)).mono ?_)
  rintro e _ ⟨rfl, rfl⟩
  go_wp2_with fail
  refine hK.out _ _ (fun _ => HKP.out _ (HBX37.out)) (fun hS => ?_)
  replace hS := hS (by decide)
  clear hK K
  try simp only [Act.put, List.setIfInBounds_toArray, List.set_cons_zero, List.set_cons_succ]
  refine wpAnyL_ready (rs := [32]) (by kernel_rfl) (by simp) ?_
  refine AllReadyL.cons (o := ?o76) ?ho76 (fun K hK => ?_) AllReadyL.nil
  case ho76 => simp only [List.getElem?_toArray, List.getElem?_cons_succ, List.getElem?_cons_zero]; rfl
  go_simp
  (with_reducible refine (within_any sn 0 4 x37 HX.out.ws (by omega) (by omega) (by omega)).mono ?_)
  rintro e _ ⟨rfl, rfl⟩
  go_wp2_with fail
  refine hK.out _ _ (fun _ => HKP.out _ (HBX37.out)) (fun hS => ?_)
  replace hS := hS (by decide)
  clear hK K
  try simp only [Act.put, List.setIfInBounds_toArray, List.set_cons_zero, List.set_cons_succ]
  refine wpAnyL_ready (rs := [35]) (by kernel_rfl) (by simp) ?_
  refine AllReadyL.cons (o := ?o77) ?ho77 (fun K hK => ?_) AllReadyL.nil
  case ho77 => simp only [List.getElem?_toArray, List.getElem?_cons_succ, List.getElem?_cons_zero]; rfl
  go_simp
  (with_reducible refine (HCUT.out x37).mono ?_)
  rintro e _ ⟨rfl, rfl⟩
  go_wp2_with fail
  refine hK.out _ _ (fun _ => HKP.out _ (HBX37.out)) (fun hS => ?_)
  replace hS := hS (by decide)
  clear hK K
  try simp only [Act.put, List.setIfInBounds_toArray, List.set_cons_zero, List.set_cons_succ]
  refine wpAnyL_take (i := 36) (oi := ?oi78) (v := ?v78) ?hi78 (by kernel_rfl) (by kernel_rfl) (by kernel_rfl) (by kernel_rfl) (by kernel_rfl) ?hq78 (Or.inl ⟨?hw78, ?hy78⟩) hS ?rest78
  case hi78 => simp only [List.getElem?_toArray, List.getElem?_cons_succ, List.getElem?_cons_zero]; rfl
  case hq78 => exact fun _ _ _ h => h
  case hw78 => rfl
  case hy78 => intro w hSw; (try dsimp only at hSw); go_simp; (try with_reducible rfl)
  try simp only [Act.put, List.setIfInBounds_toArray, List.set_cons_zero, List.set_cons_succ]
  refine wpAnyL_ready (rs := [38]) (by kernel_rfl) (by simp) ?_
  refine AllReadyL.cons (o := ?o79) ?ho79 (fun K hK => ?_) AllReadyL.nil
  case ho79 => simp only [List.getElem?_toArray, List.getElem?_cons_succ, List.getElem?_cons_zero]; rfl
  refine step_store_rep rfl 36 _ _ rfl _ (opC ⟨kd, s1, s2, withinI fd 0 3, withinI at_ 0 50, withinI nn 0 60, til.tmod 12, withinI sn 0 4, d40⟩ da dc) rfl rfl _ HAX37.out.1 opSize rfl (opC_one _ _ _) ?_
  intro w5 hs5
  have HMID := Lib.hid (TameMid.of HB2.out HOP.out HRE.out (HBX37.out) HAX37.out.2 hs5)
  clear hs5
  refine hK.out _ _ (fun h => absurd rfl h) (fun hS => ?_)
  clear hS hK K
  try simp only [Act.put, List.setIfInBounds_toArray, List.set_cons_zero, List.set_cons_succ]
  refine wpAnyL_done (by kernel_rfl) ?_ _
  refine NoPanic.normal ?_
  refine (show Hid _ from ?_).out
  rotate_left
  go_simp
  have HBX43 : Hid (Below w2.heap.size w2 ((w2.alloc (.cells #[.int .i64 0, .string ⟨#[]⟩, .string ⟨#[]⟩, .int .i64 0, .int .i64 0, .int .i64 0, .int .u64 0, .int .i64 0, .slice none 0 0] 36)).drew)) := Lib.hid (((Below.refl w2.heap.size w2).alloc (Nat.le_refl _) _).drew)
  have HAX43 : Hid (((w2.alloc (.cells #[.int .i64 0, .string ⟨#[]⟩, .string ⟨#[]⟩, .int .i64 0, .int .i64 0, .int .i64 0, .int .u64 0, .int .i64 0, .slice none 0 0] 36)).drew).heap[w2.heap.size]? = some (.cells #[.int .i64 0, .string ⟨#[]⟩, .string ⟨#[]⟩, .int .i64 0, .int .i64 0, .int .i64 0, .int .u64 0, .int .i64 0, .slice none 0 0] 36 (0, 0)) ∧ w2.heap.size ≤ w2.heap.size) := Lib.hid ⟨(MapKept.heap_alloc w2 _).1, Nat.le_refl _⟩
  refine hK.out _ _ (fun _ => HKP.out _ HBX43.out) (fun hS => ?_)
  replace hS := hS (by decide)
  clear hK K
  try simp only [Act.put, List.setIfInBounds_toArray, List.set_cons_zero, List.set_cons_succ]
  refine wpAnyL_ready (rs := [9]) (by kernel_rfl) (by simp) ?_
  refine AllReadyL.cons (o := ?o80) ?ho80 (fun K hK => ?_) AllReadyL.nil
  case ho80 => simp only [List.getElem?_toArray, List.getElem?_cons_succ, List.getElem?_cons_zero]; rfl
  go_simp
  (with_reducible refine (name_any _ HZ1.out ((w2.alloc (.cells #[.int .i64 0, .string ⟨#[]⟩, .string ⟨#[]⟩, .int .i64 0, .int .i64 0, .int .i64 0, .int .u64 0, .int .i64 0, .slice none 0 0] 36)).drew)).mono ?_)
  rintro e x44 ⟨s1, hs44, rfl, hbx44⟩
  have HN1 := Lib.hid hs44
  have HBX44 : Hid (Below w2.heap.size w2 x44) := Lib.hid (Below.trans (HBX43.out) (hbx44.mono (HBX43.out).size))
  have HAX44 : Hid (x44.heap[w2.heap.size]? = some (.cells #[.int .i64 0, .string ⟨#[]⟩, .string ⟨#[]⟩, .int .i64 0, .int .i64 0, .int .i64 0, .int .u64 0, .int .i64 0, .slice none 0 0] 36 (0, 0)) ∧ w2.heap.size ≤ w2.heap.size) := Lib.hid ⟨(hbx44.block _ (Array.getElem?_eq_some_iff.1 HAX43.out.1).1).trans HAX43.out.1, HAX43.out.2⟩
  clear hs44 hbx44
  go_wp2_with fail
  refine hK.out _ _ (fun _ => HKP.out _ HBX44.out) (fun hS => ?_)
  replace hS := hS (by decide)
  clear hK K
  try simp only [Act.put, List.setIfInBounds_toArray, List.set_cons_zero, List.set_cons_succ]
  refine wpAnyL_ready (rs := [17]) (by kernel_rfl) (by simp) ?_
  refine AllReadyL.cons (o := ?o81) ?ho81 (fun K hK => ?_) AllReadyL.nil
  case ho81 => simp only [List.getElem?_toArray, List.getElem?_cons_succ, List.getElem?_cons_zero]; rfl
  go_simp
  (with_reducible refine (name_any _ HZ2.out x44).mono ?_)
  rintro e x45 ⟨s2, hs45, rfl, hbx45⟩
  have HN2 := Lib.hid hs45
  have HBX45 : Hid (Below w2.heap.size w2 x45) := Lib.hid (Below.trans (HBX44.out) (hbx45.mono (HBX44.out).size))
  have HAX45 : Hid (x45.heap[w2.heap.size]? = some (.cells #[.int .i64 0, .string ⟨#[]⟩, .string ⟨#[]⟩, .int .i64 0, .int .i64 0, .int .i64 0, .int .u64 0, .int .i64 0, .slice none 0 0] 36 (0, 0)) ∧ w2.heap.size ≤ w2.heap.size) := Lib.hid ⟨(hbx45.block _ (Array.getElem?_eq_some_iff.1 HAX44.out.1).1).trans HAX44.out.1, HAX44.out.2⟩
  clear hs45 hbx45
  go_wp2_with fail
  refine hK.out _ _ (fun _ => HKP.out _ HBX45.out) (fun hS => ?_)
  replace hS := hS (by decide)
  clear hK K
  try simp only [Act.put, List.setIfInBounds_toArray, List.set_cons_zero, List.set_cons_succ]
  refine wpAnyL_ready (rs := [20]) (by kernel_rfl) (by simp) ?_
  refine AllReadyL.cons (o := ?o82) ?ho82 (fun K hK => ?_) AllReadyL.nil
  case ho82 => simp only [List.getElem?_toArray, List.getElem?_cons_succ, List.getElem?_cons_zero]; rfl
  go_simp
  (with_reducible refine (within_any fd 0 3 x45 HX.out.wf (by omega) (by omega) (by omega)).mono ?_)
  rintro e _ ⟨rfl, rfl⟩
  go_wp2_with fail
  refine hK.out _ _ (fun _ => HKP.out _ (HBX45.out)) (fun hS => ?_)
  replace hS := hS (by decide)
  clear hK K
  try simp only [Act.put, List.setIfInBounds_toArray, List.set_cons_zero, List.set_cons_succ]
  refine wpAnyL_ready (rs := [23]) (by kernel_rfl) (by simp) ?_
  refine AllReadyL.cons (o := ?o83) ?ho83 (fun K hK => ?_) AllReadyL.nil
  case ho83 => simp only [List.getElem?_toArray, List.getElem?_cons_succ, List.getElem?_cons_zero]; rfl
  go_simp
  (with_reducible refine (within_any at_ 0 50 x45 HX.out.wa (by omega) (by omega) (by omega)).mono ?_)
  rintro e _ ⟨rfl, rfl⟩
  go_wp2_with fail
  refine hK.out _ _ (fun _ => HKP.out _ (HBX45.out)) (fun hS => ?_)
  replace hS := hS (by decide)
  clear hK K
  try simp only [Act.put, List.setIfInBounds_toArray, List.set_cons_zero, List.set_cons_succ]
  refine wpAnyL_ready (rs := [26]) (by kernel_rfl) (by simp) ?_
  refine AllReadyL.cons (o := ?o84) ?ho84 (fun K hK => ?_) AllReadyL.nil
  case ho84 => simp only [List.getElem?_toArray, List.getElem?_cons_succ, List.getElem?_cons_zero]; rfl
  go_simp
  (with_reducible refine (within_any nn 0 60 x45 HX.out.wn (by omega) (by omega) (by omega)).mono ?_)
  rintro e _ ⟨rfl, rfl⟩
  go_wp2_with fail
  refine hK.out _ _ (fun _ => HKP.out _ (HBX45.out)) (fun hS => ?_)
  replace hS := hS (by decide)
  clear hK K
  try simp only [Act.put, List.setIfInBounds_toArray, List.set_cons_zero, List.set_cons_succ]
  refine wpAnyL_ready (rs := [32]) (by kernel_rfl) (by simp) ?_
  refine AllReadyL.cons (o := ?o85) ?ho85 (fun K hK => ?_) AllReadyL.nil
  case ho85 => simp only [List.getElem?_toArray, List.getElem?_cons_succ, List.getElem?_cons_zero]; rfl
  go_simp
  (with_reducible refine (within_any sn 0 4 x45 HX.out.ws (by omega) (by omega) (by omega)).mono ?_)
  rintro e _ ⟨rfl, rfl⟩
  go_wp2_with fail
  refine hK.out _ _ (fun _ => HKP.out _ (HBX45.out)) (fun hS => ?_)
  replace hS := hS (by decide)
  clear hK K
  try simp only [Act.put, List.setIfInBounds_toArray, List.set_cons_zero, List.set_cons_succ]
  refine wpAnyL_ready (rs := [35]) (by kernel_rfl) (by simp) ?_
  refine AllReadyL.cons (o := ?o86) ?ho86 (fun K hK => ?_) AllReadyL.nil
  case ho86 => simp only [List.getElem?_toArray, List.getElem?_cons_succ, List.getElem?_cons_zero]; rfl
  go_simp
  (with_reducible refine (HCUT.out x45).mono ?_)
  rintro e _ ⟨rfl, rfl⟩
  go_wp2_with fail
  refine hK.out _ _ (fun _ => HKP.out _ (HBX45.out)) (fun hS => ?_)
  replace hS := hS (by decide)
  clear hK K
  try simp only [Act.put, List.setIfInBounds_toArray, List.set_cons_zero, List.set_cons_succ]
  refine wpAnyL_take (i := 36) (oi := ?oi87) (v := ?v87) ?hi87 (by kernel_rfl) (by kernel_rfl) (by kernel_rfl) (by kernel_rfl) (by kernel_rfl) ?hq87 (Or.inl ⟨?hw87, ?hy87⟩) hS ?rest87
  case hi87 => simp only [List.getElem?_toArray, List.getElem?_cons_succ, List.getElem?_cons_zero]; rfl
  case hq87 => exact fun _ _ _ h => h
  case hw87 => rfl
  case hy87 => intro w hSw; (try dsimp only at hSw); go_simp; (try with_reducible rfl)
  try simp only [Act.put, List.setIfInBounds_toArray, List.set_cons_zero, List.set_cons_succ]
  refine wpAnyL_ready (rs := [38]) (by kernel_rfl) (by simp) ?_
  refine AllReadyL.cons (o := ?o88) ?ho88 (fun K hK => ?_) AllReadyL.nil
  case ho88 => simp only [List.getElem?_toArray, List.getElem?_cons_succ, List.getElem?_cons_zero]; rfl
  refine step_store_rep rfl 36 _ _ rfl _ (opC ⟨kd, s1, s2, withinI fd 0 3, withinI at_ 0 50, withinI nn 0 60, til.tmod 12, withinI sn 0 4, d40⟩ da dc) rfl rfl _ HAX45.out.1 opSize rfl (opC_one _ _ _) ?_
  intro w5 hs5
  have HMID := Lib.hid (TameMid.of HB2.out HOP.out HRE.out (HBX45.out) HAX45.out.2 hs5)
  clear hs5
  refine hK.out _ _ (fun h => absurd rfl h) (fun hS => ?_)
  clear hS hK K
  try simp only [Act.put, List.setIfInBounds_toArray, List.set_cons_zero, List.set_cons_succ]
  refine wpAnyL_done (by kernel_rfl) ?_ _
  refine NoPanic.normal ?_
  refine (show Hid _ from ?_).out
  rotate_left
  all_goals
    refine Lib.hid ?_
    have y0 := HMID.out.kind
    have y7 := HMID.out.snap
    obtain ⟨z0, z1, z2, z3, z4, z5, z6, z7, z8, zf⟩ := HMID.out.all
    dsimp only at y0 y7 z0 z1 z2 z3 z4 z5 z6 z7 z8
    obtain ⟨hr7, hb7⟩ := HMID.out.put
    have HP7 := Lib.hid (And.intro hr7 hb7)
    clear hr7 hb7
    by_cases h3 : kd = 3
    · subst h3
      cases hs : (sn.tmod 3 != 0)
      case false =>
        go_wp2_with (refine wpList_store_rep (by rfl) 36 _ _ (by rfl) (w.heap.size + 1) (opC ⟨3, s1, s2, withinI fd 0 3, withinI at_ 0 50, withinI nn 0 60, til.tmod 12, withinI sn 0 4, d40⟩ da dc) (by rfl) (by rfl) _ HMID.out.res opSize rfl (opC_one _ _ _) ?_; intro w6 hs6; have HS6 := Lib.hid hs6; clear hs6)
        exact ret_op rfl rfl rfl HS6.out.1 (tame_end HX.out HDC.out HDA.out HD4.out HN1.out HN2.out (.inl rfl) rfl rfl rfl rfl rfl (HS6.out.below HMID.out.below (Nat.le_succ _)))
      case true =>
        go_wp2_with (refine wpList_store_rep (by rfl) 36 _ _ (by rfl) (w.heap.size + 1) (opC ⟨3, s1, s2, withinI fd 0 3, withinI at_ 0 50, withinI nn 0 60, til.tmod 12, 0, d40⟩ da dc) (by rfl) (by rfl) _ HP7.out.1 opSize rfl (opC_one _ _ _) ?_; intro w6 hs6; have HS6 := Lib.hid hs6; clear hs6)
        exact ret_op rfl rfl rfl HS6.out.1 (tame_end HX.out HDC.out HDA.out HD4.out HN1.out HN2.out (.inr rfl) rfl rfl rfl rfl rfl (HS6.out.below HP7.out.2 (Nat.le_succ _)))
    · have e3 : (kd == 3) = false := by simpa using h3
      clear h3
      by_cases h11 : kd = 11
      · subst h11
        cases hs : (sn.tmod 3 != 0)
        case false =>
          go_wp2_with (refine wpList_store_rep (by rfl) 36 _ _ (by rfl) (w.heap.size + 1) (opC ⟨11, s1, s2, withinI fd 0 3, withinI at_ 0 50, withinI nn 0 60, til.tmod 12, withinI sn 0 4, d40⟩ da dc) (by rfl) (by rfl) _ HMID.out.res opSize rfl (opC_one _ _ _) ?_; intro w6 hs6; have HS6 := Lib.hid hs6; clear hs6)
          exact ret_op rfl rfl rfl HS6.out.1 (tame_end HX.out HDC.out HDA.out HD4.out HN1.out HN2.out (.inl rfl) rfl rfl rfl rfl rfl (HS6.out.below HMID.out.below (Nat.le_succ _)))
        case true =>
          go_wp2_with (refine wpList_store_rep (by rfl) 36 _ _ (by rfl) (w.heap.size + 1) (opC ⟨11, s1, s2, withinI fd 0 3, withinI at_ 0 50, withinI nn 0 60, til.tmod 12, 0, d40⟩ da dc) (by rfl) (by rfl) _ HP7.out.1 opSize rfl (opC_one _ _ _) ?_; intro w6 hs6; have HS6 := Lib.hid hs6; clear hs6)
          exact ret_op rfl rfl rfl HS6.out.1 (tame_end HX.out HDC.out HDA.out HD4.out HN1.out HN2.out (.inr rfl) rfl rfl rfl rfl rfl (HS6.out.below HP7.out.2 (Nat.le_succ _)))
      · have e11 : (kd == 11) = false := by simpa using h11
        clear h11
        by_cases h12 : kd = 12
        · subst h12
          cases hs : (sn.tmod 3 != 0)
          case false =>
            go_wp2_with (refine wpList_store_rep (by rfl) 36 _ _ (by rfl) (w.heap.size + 1) (opC ⟨12, s1, s2, withinI fd 0 3, withinI at_ 0 50, withinI nn 0 60, til.tmod 12, withinI sn 0 4, d40⟩ da dc) (by rfl) (by rfl) _ HMID.out.res opSize rfl (opC_one _ _ _) ?_; intro w6 hs6; have HS6 := Lib.hid hs6; clear hs6)
            exact ret_op rfl rfl rfl HS6.out.1 (tame_end HX.out HDC.out HDA.out HD4.out HN1.out HN2.out (.inl rfl) rfl rfl rfl rfl rfl (HS6.out.below HMID.out.below (Nat.le_succ _)))
          case true =>
            go_wp2_with (refine wpList_store_rep (by rfl) 36 _ _ (by rfl) (w.heap.size + 1) (opC ⟨12, s1, s2, withinI fd 0 3, withinI at_ 0 50, withinI nn 0 60, til.tmod 12, 0, d40⟩ da dc) (by rfl) (by rfl) _ HP7.out.1 opSize rfl (opC_one _ _ _) ?_; intro w6 hs6; have HS6 := Lib.hid hs6; clear hs6)
            exact ret_op rfl rfl rfl HS6.out.1 (tame_end HX.out HDC.out HDA.out HD4.out HN1.out HN2.out (.inr rfl) rfl rfl rfl rfl rfl (HS6.out.below HP7.out.2 (Nat.le_succ _)))
        · have e12 : (kd == 12) = false := by simpa using h12
          clear h12
          go_wp2_with (refine wpList_store_rep (by rfl) 36 _ _ (by rfl) (w.heap.size + 1) (opC ⟨kd, s1, s2, withinI fd 0 3, withinI at_ 0 50, withinI nn 0 60, til.tmod 12, withinI sn 0 4, d40⟩ da dc) (by rfl) (by rfl) _ HMID.out.res opSize rfl (opC_one _ _ _) ?_; intro w6 hs6; have HS6 := Lib.hid hs6; clear hs6)
          exact ret_op rfl rfl rfl HS6.out.1 (tame_end HX.out HDC.out HDA.out HD4.out HN1.out HN2.out (.inl rfl) rfl rfl rfl rfl rfl (HS6.out.below HMID.out.below (Nat.le_succ _)))
end Go.Proofs.YtpgklnhkfgbpgaaGreatDoor
