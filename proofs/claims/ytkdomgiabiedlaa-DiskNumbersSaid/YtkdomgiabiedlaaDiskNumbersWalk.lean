/- DiskNumbers: the walk. -/
import Derived.Test.YtkdomgiabiedlaaDiskNumbersP
import Derived.Lib.SlBytesConst
namespace Go.Proofs.Ytkdomgiabiedlaa.diskNumbers
open Go.ChangeShapes Go.WideShapes Go.ChangeAt Go.RowKit
set_option linter.unusedVariables false
set_option linter.unusedSimpArgs false

theorem mkN (k : Nat) (ki : Int) (hk : ki = k) (hs : k ≤ 1048576) (w : World) : (Instr.makeSlice 22 (.int .i64 ki) (.int .i64 ki)).run Try.prog w = .ok (.slice (some ⟨w.heap.size, 0, none⟩) k k) (w.alloc (.cells (madeCells #[.int .u8 0] k) 5)) := by
  obtain ⟨i0, hi, hz0, hz1, hz2⟩ := info_parts Try.info8
  have h := run_make (P := Try.prog) w 22 5 i0 (.int .u8 0) Try.underlying22 hi hz0 .i64 .i64 ki ki (by omega) (by omega) (by rw [hz2]; omega) (by omega)
  rw [h, hz1]
  subst hk
  simp [Value.cells]
theorem new_rowM {w : World} (vs : List Value) (t : TypeId) (m : Nat × Nat) (hm : vs.length ≤ maxLen) : RowAt (fun x => x = w.heap.size) (w.alloc (.cells vs.toArray t m)) (some ⟨w.heap.size, 0, none⟩) vs.length vs := by
  refine ⟨rfl, hm, fun _ => ⟨_, 0, rfl, rfl, by simp, fun i hi => ?_⟩⟩
  have hh : (w.alloc (.cells vs.toArray t m)).heap[w.heap.size]? = some (.cells vs.toArray t m) := (MapKept.heap_alloc w _).1
  simp only [World.cell?, hh]
  simp
def B1 : List UInt8 := sizedL [1] 128
def B2 : List UInt8 := sizedL [2, 2, 2] 128
def NRel (W : World) (P0 : Nat → Prop) (wL : World) (d r : Nat) (i : Value) (wr : World) : Prop := ∃ (k : Nat) (Q : Nat → Prop) (M : DiskM), i = .int .i64 k ∧ k ≤ 17 ∧ Both2 W P0 Q wr d r M ∧ M.writes ≤ k ∧ Keeps (Far W P0) wL wr
theorem img_any (w : World) : Calls Try.prog 10 #[.slice (some ⟨w.heap.size, 0, none⟩) 5 5, .int .i64 8320] (w.alloc (.cells #[.int .u8 105, .int .u8 109, .int .u8 97, .int .u8 103, .int .u8 101] 5 (5, 6))) (NewRowN (w.alloc (.cells #[.int .u8 105, .int .u8 109, .int .u8 97, .int .u8 103, .int .u8 101] 5 (5, 6))) 8320 IMG) :=
  sized_at (S := fun x => x = w.heap.size) _ 5 5 8320 8320 bImage _ (new_rowM (bImage.map bv) _ (5, 6) (by decide)) rfl (by omega) (by omega)
theorem b1_any (w : World) : Calls Try.prog 10 #[.slice (some ⟨w.heap.size, 0, none⟩) 1 1, .int .i64 128] (w.alloc (.cells #[.int .u8 1] 5)) (NewRowN (w.alloc (.cells #[.int .u8 1] 5)) 128 B1) :=
  sized_at (S := fun x => x = w.heap.size) _ 1 1 128 128 [1] _ (new_row (([1] : List UInt8).map bv) _ (by decide)) rfl (by omega) (by omega)
theorem b2_any (w : World) : Calls Try.prog 10 #[.slice (some ⟨w.heap.size, 0, none⟩) 3 3, .int .i64 128] (w.alloc (.cells #[.int .u8 2, .int .u8 2, .int .u8 2] 5)) (NewRowN (w.alloc (.cells #[.int .u8 2, .int .u8 2, .int .u8 2] 5)) 128 B2) :=
  sized_at (S := fun x => x = w.heap.size) _ 3 3 128 128 [2, 2, 2] _ (new_row (([2, 2, 2] : List UInt8).map bv) _ (by decide)) rfl (by omega) (by omega)

set_option maxRecDepth 100000 in
set_option maxHeartbeats 16000000 in
theorem walk (W : World) : Calls Try.prog 8 #[] W (Fine W) := by
  have hm1 := mkN 8191 8191 rfl (by omega)
  have hm2 := mkN 8064 8064 rfl (by omega)
  have kc := fun (w : World) (C : Array Value) (n c : Nat) => Lib.run_convert_bytes_const (P := Try.prog) w 22 5 C n c Try.underlying22 Try.underlying5
  generalize madeCells #[.int .u8 0] 8191 = z1 at hm1
  generalize madeCells #[.int .u8 0] 8064 = z2 at hm2
  go_enter Try.func8, Try.ntmps8
  go_wp2_with fail
  (with_reducible refine (dnew_none 63 (.inl (by omega)) _).mono ?_)
  rintro e w' ⟨rfl, rfl⟩
  go_wp2_with fail
  (with_reducible refine (dnew_none 4097 (.inr (by omega)) _).mono ?_)
  rintro e w' ⟨rfl, rfl⟩
  go_wp2_with fail
  (with_reducible refine (dof_none _ 8191 8191 (by omega) _).mono ?_)
  rintro e w' ⟨rfl, rfl⟩
  go_wp2_with fail
  (with_reducible refine (dof_none _ 8064 8064 (by omega) _).mono ?_)
  rintro e w' ⟨rfl, rfl⟩
  have hB0 : Below W.heap.size W ((W.alloc (.cells z1 5)).alloc (.cells z2 5)) := ((Below.refl _ _).alloc (Nat.le_refl _) _).alloc (by simp) _
  generalize hw0 : (W.alloc (.cells z1 5)).alloc (.cells z2 5) = w0 at hB0
  clear hw0 hm1 hm2
  go_wp2_with fail
  (with_reducible refine (img_any _).mono ?_)
  rintro e w1 ⟨v1, rfl, hv1, hB1⟩
  obtain ⟨b1, c1, rfl, hc1, hr1⟩ := hv1.row
  have hs1 := hB1.size
  rw [World.size_alloc] at hs1
  have hB01 : Below w0.heap.size w0 w1 := ((Below.refl _ _).alloc (Nat.le_refl _) _).trans (hB1.mono (by simp))
  have HOF := Lib.hid (dof_at _ 8320 c1 65 IMG w1 hr1 rfl (by omega) (by omega))
  clear hv1 hr1 hB1 kc
  go_wp2_with fail
  (with_reducible refine HOF.out.mono ?_)
  clear HOF
  rintro e w2 ⟨Fx, dx, sx, mx, rfl, hDx, hFx, hB2⟩
  have hs2 := hB2.size
  have HDX := Lib.hid hDx
  have hBW2 := hB0.trans ((hB01.trans (hB2.mono (by omega))).mono hB0.size)
  clear hDx
  go_wp2_with fail
  (with_reducible refine (in_new _ _ (Below.refl _ _)).mono ?_)
  rintro e w3 ⟨d, sb, mb, rfl, hD3, hB3⟩
  have hs3 := hB3.size
  have HD3 := Lib.hid hD3
  clear hD3
  go_wp2_with fail
  (with_reducible refine (rnew_any _).mono ?_)
  rintro e w4 ⟨Fr, r, s, n, t, rfl, hR4, hF4, hB4⟩
  have hs4 := hB4.size
  have HR4 := Lib.hid hR4
  have HF4 := Lib.hid hF4
  clear hR4 hF4
  go_wp2_with fail
  (with_reducible refine (b1_any _).mono ?_)
  rintro e w5 ⟨v1, rfl, hv1, hB5⟩
  obtain ⟨o1, p1, rfl, hp1, hr1⟩ := hv1.row
  have hs5 := hB5.size
  rw [World.size_alloc] at hs5
  have hB45 : Below w4.heap.size w4 w5 := ((Below.refl _ _).alloc (Nat.le_refl _) _).trans (hB5.mono (by simp))
  have HR1 := Lib.hid hr1
  clear hv1 hr1 hB5
  go_wp2_with fail
  (with_reducible refine (b2_any _).mono ?_)
  rintro e w6 ⟨v1, rfl, hv1, hB6⟩
  obtain ⟨o2, p2, rfl, hp2, hr2⟩ := hv1.row
  have hs6 := hB6.size
  rw [World.size_alloc] at hs6
  have hB56 : Below w5.heap.size w5 w6 := ((Below.refl _ _).alloc (Nat.le_refl _) _).trans (hB6.mono (by simp))
  have HR2 := Lib.hid hr2
  clear hv1 hr2 hB6
  have hs6L := loopW_size w6 o1 p1 o2 p2
  have hB4L : Below w4.heap.size w4 (loopW w6 o1 p1 o2 p2) := (hB45.trans (hB56.mono (by omega))).trans ((loopW_below _ _ _ _ _).mono (by omega))
  have hBo0 := Both2.start hBW2 HD3.out hB3 HR4.out HF4.out hB4 hB4L
  have hRows := loopW_rows (S := fun x => w4.heap.size ≤ x ∧ x < (loopW w6 o1 p1 o2 p2).heap.size) w6 o1 p1 o2 p2 (fun x h1 h2 => by omega)
  have HOK := Lib.hid (asks_ok (g := w6.heap.size) ((HR1.out.below (hB56.trans ((loopW_below w6 o1 p1 o2 p2).mono (by omega))) (Nat.le_refl _)).mono (S' := fun x => w4.heap.size ≤ x ∧ x < (loopW w6 o1 p1 o2 p2).heap.size) (fun x hx => by rw [World.size_alloc] at hx; omega)) ((HR2.out.below (loopW_below w6 o1 p1 o2 p2) (Nat.le_refl _)).mono (S' := fun x => w4.heap.size ≤ x ∧ x < (loopW w6 o1 p1 o2 p2).heap.size) (fun x hx => by rw [World.size_alloc] at hx; omega)) hp1 hp2 hRows.1 hRows.2)
  have HXL := Lib.hid (HDX.out.keeps (Keeps.below ((hB3.trans (hB4.mono (by omega))).trans (hB4L.mono (by omega)))) fun x hx hf => by have := HDX.out.low x hx; omega)
  have HCELL := Lib.hid (loopW_cells w6 o1 p1 o2 p2)
  have HXF := Lib.hid (fun x (hx : Fx x) => And.intro (hFx x hx) (HDX.out.low x hx))
  have hWL := hBW2.trans ((hB3.trans (hB4.mono (by omega))).trans (hB4L.mono (by omega)) |>.mono hBW2.size)
  obtain ⟨P0, hP0⟩ : ∃ P0, P0 = Own W w2 w4 (loopW w6 o1 p1 o2 p2) := ⟨_, rfl⟩
  rw [← hP0] at hBo0
  have HBO0 := Lib.hid hBo0
  have HP0 := Lib.hid hP0
  have hSP : Hid (∀ x, (w4.heap.size ≤ x ∧ x < (loopW w6 o1 p1 o2 p2).heap.size) → P0 x) := by rw [hP0]; exact fun x hx => .inr hx
  have hW1 : W.heap.size ≤ w1.heap.size := Nat.le_trans hB0.size hB01.size
  clear hBo0 hRows hP0 hB3 hB4 hB45 hB56 hB2 hB01 hB0 hB4L HR1 HR2 HR4 HF4 HD3 HDX hFx
  have h246 : w4.heap.size ≤ w6.heap.size := by omega
  clear hs1 hs2 hs3 hs4 hs5 hs6
  go_upto_block 0 with (fail)
  go_cut [101] from 20 to 121 (fun s wx => Keeps (Far W P0) (loopW w6 o1 p1 o2 p2) wx)
  case first =>
    go_wp2_with fail
    go_loopw [101] (fun i wr => NRel W P0 (loopW w6 o1 p1 o2 p2) d r i wr) (fun i _ => 17 - (intOf i).toNat)
    case atStart => exact ⟨0, _, M0, rfl, by omega, HBO0.out, Int.le_refl _, Keeps.refl _ _⟩
    case round =>
      obtain ⟨k, Q, M, rfl, hk17, hBo, hwr, hK⟩ := hrel
      have HBO := Lib.hid hBo
      have HK := Lib.hid hK
      have hszr := hK.size
      clear hBo hK
      by_cases hlt : k < 17
      · have hd1 : decide ((k : Int) < 17) = true := by simp; omega
        have i0 : (0 : Int) ≤ (k : Int) := by omega
        have i1 : (k : Int) < 17 := by omega
        obtain ⟨y, hy, hc⟩ := asks_cell o1 p1 o2 p2 w6.heap.size B1 B2 k hlt
        have HY := Lib.hid (HOK.out y (List.mem_of_getElem? hy))
        have hblk : wr.heap[w6.heap.size + 1 + 1]? = (loopW w6 o1 p1 o2 p2).heap[w6.heap.size + 1 + 1]? := HK.out.block _ (by omega) (fun hf => hf.2 (hSP.out _ ⟨by omega, by omega⟩))
        have hcell : ∀ j, j < 6 → wr.cell? ⟨w6.heap.size + 1 + 1, k * 6 + j, none⟩ = (cellsOf y)[j]? := fun j hj => by rw [← hc j hj, ← HCELL.out]; simp only [World.cell?, hblk]
        have q0 : wr.cell? ⟨w6.heap.size + 1 + 1, k * 6, none⟩ = some (.int .i64 y.x.kind) := hcell 0 (by omega)
        have q1 : wr.cell? ⟨w6.heap.size + 1 + 1, k * 6 + 1, none⟩ = some (.int .i64 y.x.i) := hcell 1 (by omega)
        have q2 : wr.cell? ⟨w6.heap.size + 1 + 1, k * 6 + 2, none⟩ = some (.slice y.ba y.bn y.bc) := hcell 2 (by omega)
        have q3 : wr.cell? ⟨w6.heap.size + 1 + 1, k * 6 + 3, none⟩ = some (.slice y.ka y.kn y.kc) := hcell 3 (by omega)
        have q4 : wr.cell? ⟨w6.heap.size + 1 + 1, k * 6 + 4, none⟩ = some (.int .i64 y.x.torn) := hcell 4 (by omega)
        have q5 : wr.cell? ⟨w6.heap.size + 1 + 1, k * 6 + 5, none⟩ = some (.int .i64 y.x.cut) := hcell 5 (by omega)
        clear hblk hcell hc hy
        go_wp2_with fail
        clear q0 q1 q2 q3 q4 q5
        refine wp_region_noPanic ?_
        refine wp_region_held_drew (S := (fun _ => True)) (by kernel_rfl) ?_ (fun hS => ?_)
        · trivial
        have HZ := askW wr (.int .i64 y.x.kind) (.int .i64 y.x.i) (.slice y.ba y.bn y.bc) (.slice y.ka y.kn y.kc) (.int .i64 y.x.torn) (.int .i64 y.x.cut)
        generalize (wr.alloc (.cells #[.int .i64 y.x.kind, .int .i64 y.x.i, .slice y.ba y.bn y.bc, .slice y.ka y.kn y.kc, .int .i64 y.x.torn, .int .i64 y.x.cut] 45)).drew = wy at HZ ⊢
        obtain ⟨hBY, hz⟩ := HZ
        have z0 : wy.cell? ⟨wr.heap.size, 0, none⟩ = some (.int .i64 y.x.kind) := hz 0
        have z1 : wy.cell? ⟨wr.heap.size, 1, none⟩ = some (.int .i64 y.x.i) := hz 1
        have z2 : wy.cell? ⟨wr.heap.size, 2, none⟩ = some (.slice y.ba y.bn y.bc) := hz 2
        have z3 : wy.cell? ⟨wr.heap.size, 3, none⟩ = some (.slice y.ka y.kn y.kc) := hz 3
        have z4 : wy.cell? ⟨wr.heap.size, 4, none⟩ = some (.int .i64 y.x.torn) := hz 4
        have z5 : wy.cell? ⟨wr.heap.size, 5, none⟩ = some (.int .i64 y.x.cut) := hz 5
        have hnf : ∀ b, (w4.heap.size ≤ b ∧ b < (loopW w6 o1 p1 o2 p2).heap.size) → ¬ Far W P0 b := fun b hb hf => hf.2 (hSP.out b hb)
        have hdo := do2_any y.x y.ba y.bn y.bc y.ka y.kn y.kc (HBO.out.below hBY) (fun b hb => .inr (hSP.out b hb)) (by omega) ((HY.out.b.keeps HK.out hnf).below hBY (Nat.le_refl _)) HY.out.bc HY.out.small ((HY.out.keep.keeps HK.out hnf).below hBY (Nat.le_refl _))
        unfold askV at hdo
        have HDO := Lib.hid hdo
        have HBY := Lib.hid hBY
        clear hdo hz hBY hnf
        refine wpAnyH_take (i := 0) (oi := ?oi1) (v := ?v1) ?hi1 (by kernel_rfl) (by kernel_rfl) (by kernel_rfl) ?hq1 (Or.inl ⟨?hw1, ?hy1⟩) hS ?rest1
        case hi1 => simp only [List.getElem?_toArray, List.getElem?_cons_succ, List.getElem?_cons_zero]; rfl
        case hq1 => exact fun _ _ _ h => h
        case hw1 => rfl
        case hy1 => intro w hSw; (try dsimp only at hSw); go_simp; (try with_reducible rfl)
        try simp only [Act.put, List.setIfInBounds_toArray, List.set_cons_zero, List.set_cons_succ]
        refine wpAnyH_take (i := 1) (oi := ?oi2) (v := ?v2) ?hi2 (by kernel_rfl) (by kernel_rfl) (by kernel_rfl) ?hq2 (Or.inl ⟨?hw2, ?hy2⟩) hS ?rest2
        case hi2 => simp only [List.getElem?_toArray, List.getElem?_cons_succ, List.getElem?_cons_zero]; rfl
        case hq2 => exact fun _ _ _ h => h
        case hw2 => rfl
        case hy2 => intro w hSw; (try dsimp only at hSw); go_simp; (try with_reducible rfl)
        try simp only [Act.put, List.setIfInBounds_toArray, List.set_cons_zero, List.set_cons_succ]
        refine wpAnyH_ready (rs := [2]) (by kernel_rfl) (by simp) ?_
        refine AllReadyH.cons (o := ?o3) ?ho3 (fun K hK => ?_) AllReadyH.nil
        case ho3 => simp only [List.getElem?_toArray, List.getElem?_cons_succ, List.getElem?_cons_zero]; rfl
        go_simp
        refine hK.out _ _ (trivial) (fun hS => ?_)
        clear hK K
        try simp only [Act.put, List.setIfInBounds_toArray, List.set_cons_zero, List.set_cons_succ]
        clear z0 z1 z2 z3 z4 z5
        refine wpAnyH_ready (rs := [3]) (by kernel_rfl) (by simp) ?_
        refine AllReadyH.cons (o := ?o4) ?ho4 (fun K hK => ?_) AllReadyH.nil
        case ho4 => simp only [List.getElem?_toArray, List.getElem?_cons_succ, List.getElem?_cons_zero]; rfl
        go_simp
        (with_reducible refine HDO.out.mono ?_)
        rintro e w3 ⟨rfl, Q', M', hBo', hw', hK'⟩
        have HBO' := Lib.hid hBo'
        have HK' := Lib.hid hK'
        obtain ⟨sb', mb', s', n', t', Fr', R', hD', hR', hFr', hS', hP0'⟩ := hBo'
        have hSim := hS'.full hD' hR'
        obtain ⟨q0, q1, q2, q3⟩ := ref_cells hR'
        have hrw : r < w3.heap.size := hR'.low _ hR'.own.1
        have hnr : RowAt Fr' w3 (some ⟨n', 0, none⟩) 8192 ((imgM M').map bv) := by
          rw [← hS'.now]
          exact row_take hR'.now (by rw [List.take_of_length_le (by simp [hR'.len.2.1])]) hR'.len.2.1 (by unfold maxLen; omega) hR'.own.2.2.1
        have HIM := Lib.hid (fun w' (hw' : Below w3.heap.size w3 w') => in_image (hD'.grow hw') 8192 _ hSim.ok.1 rfl)
        have HKP : Hid (∀ w', Below w3.heap.size w3 w' → Below w3.heap.size w3 w' ∧ w'.cell? ⟨r, 1, none⟩ = some (.slice (some ⟨n', 0, none⟩) 8192 8192) ∧ (convert 22 9 (.slice (some ⟨n', 0, none⟩) 8192 8192)).run Try.prog w' = .ok (.string (strOf (imgM M'))) w') := fun w' hw' => ⟨hw', (hw'.cell (p := ⟨r, 1, none⟩) hrw).trans q1, conv_row (hnr.below hw' (Nat.le_refl _))⟩
        clear q0 q1 q2 q3 hD' hR' hFr' hS' hP0' hSim hnr hK' HDO
        go_wp2_with fail
        refine hK.out _ _ (trivial) (fun hS => ?_)
        clear hK K
        try simp only [Act.put, List.setIfInBounds_toArray, List.set_cons_zero, List.set_cons_succ]
        refine wpAnyH_mono (S' := fun w' => True ∧ Below w3.heap.size w3 w' ∧ w'.cell? ⟨r, 1, none⟩ = some (.slice (some ⟨n', 0, none⟩) 8192 8192) ∧ (convert 22 9 (.slice (some ⟨n', 0, none⟩) 8192 8192)).run Try.prog w' = .ok (.string (strOf (imgM M'))) w') (fun _ h => h.1) _ _ _ _ ?_
        have hSx5 := And.intro hS (HKP.out _ (Below.refl _ _))
        clear hS
        have hS := hSx5
        clear hSx5
        refine wpAnyH_take (i := 4) (oi := ?oi6) (v := ?v6) ?hi6 (by kernel_rfl) (by kernel_rfl) (by kernel_rfl) ?hq6 (Or.inl ⟨?hw6, ?hy6⟩) hS ?rest6
        case hi6 => simp only [List.getElem?_toArray, List.getElem?_cons_succ, List.getElem?_cons_zero]; rfl
        case hq6 => exact fun _ _ _ h => h
        case hw6 => rfl
        case hy6 => intro w hSw; (try dsimp only at hSw); go_simp; (try with_reducible rfl)
        try simp only [Act.put, List.setIfInBounds_toArray, List.set_cons_zero, List.set_cons_succ]
        refine wpAnyH_take (i := 5) (oi := ?oi7) (v := ?v7) ?hi7 (by kernel_rfl) (by kernel_rfl) (by kernel_rfl) ?hq7 (Or.inl ⟨?hw7, ?hy7⟩) hS ?rest7
        case hi7 => simp only [List.getElem?_toArray, List.getElem?_cons_succ, List.getElem?_cons_zero]; rfl
        case hq7 => exact fun _ _ _ h => h
        case hw7 => rfl
        case hy7 => intro w hSw; (try dsimp only at hSw); go_simp; (try with_reducible rfl)
        try simp only [Act.put, List.setIfInBounds_toArray, List.set_cons_zero, List.set_cons_succ]
        refine wpAnyH_take (i := 6) (oi := ?oi8) (v := ?v8) ?hi8 (by kernel_rfl) (by kernel_rfl) (by kernel_rfl) ?hq8 (Or.inl ⟨?hw8, ?hy8⟩) hS ?rest8
        case hi8 => simp only [List.getElem?_toArray, List.getElem?_cons_succ, List.getElem?_cons_zero]; rfl
        case hq8 => exact fun _ _ _ h => h
        case hw8 => rfl
        case hy8 => intro w hSw; (try dsimp only at hSw); go_simp; (try with_reducible rfl)
        try simp only [Act.put, List.setIfInBounds_toArray, List.set_cons_zero, List.set_cons_succ]
        refine wpAnyH_take (i := 9) (oi := ?oi9) (v := ?v9) ?hi9 (by kernel_rfl) (by kernel_rfl) (by kernel_rfl) ?hq9 (Or.inl ⟨?hw9, ?hy9⟩) hS ?rest9
        case hi9 => simp only [List.getElem?_toArray, List.getElem?_cons_succ, List.getElem?_cons_zero]; rfl
        case hq9 => exact fun _ _ _ h => h
        case hw9 => rfl
        case hy9 => intro w hSw; (try dsimp only at hSw); go_simp; (try with_reducible rfl)
        try simp only [Act.put, List.setIfInBounds_toArray, List.set_cons_zero, List.set_cons_succ]
        refine wpAnyH_take (i := 10) (oi := ?oi10) (v := ?v10) ?hi10 (by kernel_rfl) (by kernel_rfl) (by kernel_rfl) ?hq10 (Or.inl ⟨?hw10, ?hy10⟩) hS ?rest10
        case hi10 => simp only [List.getElem?_toArray, List.getElem?_cons_succ, List.getElem?_cons_zero]; rfl
        case hq10 => exact fun _ _ _ h => h
        case hw10 => rfl
        case hy10 => intro w hSw; (try dsimp only at hSw); go_simp; (try with_reducible rfl)
        try simp only [Act.put, List.setIfInBounds_toArray, List.set_cons_zero, List.set_cons_succ]
        refine wpAnyH_take (i := 11) (oi := ?oi11) (v := ?v11) ?hi11 (by kernel_rfl) (by kernel_rfl) (by kernel_rfl) ?hq11 (Or.inl ⟨?hw11, ?hy11⟩) hS ?rest11
        case hi11 => simp only [List.getElem?_toArray, List.getElem?_cons_succ, List.getElem?_cons_zero]; rfl
        case hq11 => exact fun _ _ _ h => h
        case hw11 => rfl
        case hy11 => intro w hSw; (try dsimp only at hSw); go_simp; (try with_reducible rfl)
        try simp only [Act.put, List.setIfInBounds_toArray, List.set_cons_zero, List.set_cons_succ]
        refine wpAnyH_take (i := 12) (oi := ?oi12) (v := ?v12) ?hi12 (by kernel_rfl) (by kernel_rfl) (by kernel_rfl) ?hq12 (Or.inl ⟨?hw12, ?hy12⟩) hS ?rest12
        case hi12 => simp only [List.getElem?_toArray, List.getElem?_cons_succ, List.getElem?_cons_zero]; rfl
        case hq12 => exact fun _ _ _ h => h
        case hw12 => rfl
        case hy12 => intro w hSw; (try dsimp only at hSw); go_simp; (try with_reducible rfl)
        try simp only [Act.put, List.setIfInBounds_toArray, List.set_cons_zero, List.set_cons_succ]
        refine wpAnyH_take (i := 13) (oi := ?oi13) (v := ?v13) ?hi13 (by kernel_rfl) (by kernel_rfl) (by kernel_rfl) ?hq13 (Or.inl ⟨?hw13, ?hy13⟩) hS ?rest13
        case hi13 => simp only [List.getElem?_toArray, List.getElem?_cons_succ, List.getElem?_cons_zero]; rfl
        case hq13 => exact fun _ _ _ h => h
        case hw13 => rfl
        case hy13 => intro w hSw; (try dsimp only at hSw); go_simp; (try with_reducible rfl)
        try simp only [Act.put, List.setIfInBounds_toArray, List.set_cons_zero, List.set_cons_succ]
        refine wpAnyH_ready (rs := [7]) (by kernel_rfl) (by simp) ?_
        refine AllReadyH.cons (o := ?o14) ?ho14 (fun K hK => ?_) AllReadyH.nil
        case ho14 => simp only [List.getElem?_toArray, List.getElem?_cons_succ, List.getElem?_cons_zero]; rfl
        go_simp
        (with_reducible refine (HIM.out _ hS.2.1).mono ?_)
        rintro e w5' ⟨b4, c4, rfl, hc4, hr4, hB4⟩
        go_wp2_with fail
        have hB34 := hS.2.1.trans (hB4.mono hS.2.1.size)
        refine hK.out _ _ (⟨trivial, HKP.out _ hB34⟩) (fun hS => ?_)
        clear hK K
        try simp only [Act.put, List.setIfInBounds_toArray, List.set_cons_zero, List.set_cons_succ]
        refine wpAnyH_mono (S' := fun w' => (True ∧ Below w3.heap.size w3 w' ∧ w'.cell? ⟨r, 1, none⟩ = some (.slice (some ⟨n', 0, none⟩) 8192 8192) ∧ (convert 22 9 (.slice (some ⟨n', 0, none⟩) 8192 8192)).run Try.prog w' = .ok (.string (strOf (imgM M'))) w') ∧ (convert 22 9 (.slice (some ⟨b4, 0, none⟩) 8192 c4)).run Try.prog w' = .ok (.string (strOf (imgM M'))) w') (fun _ h => h.1) _ _ _ _ ?_
        have hSx15 := And.intro hS (conv_row (c := c4) hr4)
        clear hS
        have hS := hSx15
        clear hSx15
        clear hr4
        refine wpAnyH_take (i := 8) (oi := ?oi16) (v := ?v16) ?hi16 (by kernel_rfl) (by kernel_rfl) (by kernel_rfl) ?hq16 (Or.inl ⟨?hw16, ?hy16⟩) hS ?rest16
        case hi16 => simp only [List.getElem?_toArray, List.getElem?_cons_succ, List.getElem?_cons_zero]; rfl
        case hq16 => exact fun _ _ _ h => h
        case hw16 => rfl
        case hy16 => intro w hSw; (try dsimp only at hSw); go_simp; (try with_reducible rfl)
        try simp only [Act.put, List.setIfInBounds_toArray, List.set_cons_zero, List.set_cons_succ]
        refine wpAnyH_take (i := 14) (oi := ?oi17) (v := ?v17) ?hi17 (by kernel_rfl) (by kernel_rfl) (by kernel_rfl) ?hq17 (Or.inl ⟨?hw17, ?hy17⟩) hS ?rest17
        case hi17 => simp only [List.getElem?_toArray, List.getElem?_cons_succ, List.getElem?_cons_zero]; rfl
        case hq17 => exact fun _ _ _ h => h
        case hw17 => rfl
        case hy17 => intro w hSw; (try dsimp only at hSw); go_simp; (try with_reducible rfl)
        try simp only [Act.put, List.setIfInBounds_toArray, List.set_cons_zero, List.set_cons_succ]
        refine wpAnyH_take (i := 15) (oi := ?oi18) (v := ?v18) ?hi18 (by kernel_rfl) (by kernel_rfl) (by kernel_rfl) ?hq18 (Or.inl ⟨?hw18, ?hy18⟩) hS ?rest18
        case hi18 => simp only [List.getElem?_toArray, List.getElem?_cons_succ, List.getElem?_cons_zero]; rfl
        case hq18 => exact fun _ _ _ h => h
        case hw18 => rfl
        case hy18 => intro w hSw; (try dsimp only at hSw); go_simp; (try with_reducible rfl)
        try simp only [Act.put, List.setIfInBounds_toArray, List.set_cons_zero, List.set_cons_succ]
        refine wpAnyH_done (by kernel_rfl) ?_ _
        refine NoPanic.normal ?_
        clear hS
        go_wp2
        go_roundw
        case rel =>
          refine ⟨k + 1, Q', M', by go_num, by omega, HBO'.out.below hB34, by omega, ?_⟩
          have hWr : W.heap.size ≤ wr.heap.size := Nat.le_trans hWL.size hszr
          have h1 := HK.out.trans ((Keeps.below HBY.out).mono (fp' := fun x => wr.heap.size ≤ x) fun x _ hx => hx) (fun x hx hf => by have := HK.out.size; omega)
          have h2 := h1.trans HK'.out (fun x _ hx => hx)
          exact h2.trans (Keeps.below hB34) (fun x hx hf => by have := h2.size; omega)
        case measure => simp [intOf]; omega
      · have hd1 : decide ((k : Int) < 17) = false := by simp; omega
        go_wp2_with fail
        go_meet
        exact HK.out
  case rest =>
    have hXP : ∀ x, Fx x → P0 x := fun x hx => by
      rw [HP0.out]
      have := HXF.out x hx
      exact .inl ⟨by omega, this.2⟩
    have hDx := HXL.out.keeps hcut (fun x hx hf => hf.2 (hXP x hx))
    have hWc : Below W.heap.size W wc := hWL.trans (hcut.low hWL.size fun x hx => hx.1)
    have hIn := DiskIn.raw hDx (fun x hx => Nat.le_trans hW1 (HXF.out x hx).1) hWc
    have HIN := Lib.hid hIn
    clear hDx hIn hXP
    go_wp2_with fail
    (with_reducible refine (in_readV HIN.out 0 0 rfl _ x_sec rfl).mono ?_)
    rintro e w8 ⟨g, c, cur, rfl, hg, hcur, htk, hc1', hc2', hB8⟩
    have ht5 : cur.toList.take 5 = bImage.map bv := by
      have := congrArg (List.take 5) htk
      rw [List.take_take, ← List.map_take] at this
      exact this.trans (congrArg (List.map bv) x_read)
    have HROW : Hid (∀ w', Below w8.heap.size w8 w' → (convert 22 9 (.slice (some ⟨g, 0, none⟩) 5 c)).run Try.prog w' = .ok (.string ⟨#[105, 109, 97, 103, 101]⟩) w') := fun w' hw' => by
      have h1 := conv_row (c := c) ((row_take (S := fun x => x < w8.heap.size) hcur ht5 rfl (by decide) (Array.getElem?_eq_some_iff.1 hcur).1).below hw' (Nat.le_refl _))
      rw [x_image] at h1
      exact h1
    have HIN8 := Lib.hid (HIN.out.grow hB8)
    have hcv := HROW.out _ (Below.refl _ _)
    have hc5 : (5 : Int) ≤ (c : Int) := by omega
    have hc5' : ¬ c = 0 := by omega
    have hc6 : 5 ≤ c := by omega
    clear hcur htk ht5 hg
    go_wp2_with fail
    (with_reducible refine (in_sectors HIN8.out 65 65 img_len rfl).mono ?_)
    rintro e w9 ⟨rfl, rfl⟩
    go_wp2_with fail
    (with_reducible refine (in_dirty HIN8.out [] 0 rfl rfl).mono ?_)
    rintro e w10 ⟨da, dc, rfl, hdr, hB10⟩
    have hB810 := hB8.trans (hB10.mono hB8.size)
    clear hdr
    go_wp2_with fail
    (with_reducible refine (known5_any _).mono ?_)
    rintro e w11 ⟨rfl, hB11⟩
    have hBall := hWc.trans ((hB810.trans (hB11.mono hB810.size)).mono hWc.size)
    go_wp2_with fail
    go_ret
    exact ⟨rfl, hBall⟩
end Go.Proofs.Ytkdomgiabiedlaa.diskNumbers
