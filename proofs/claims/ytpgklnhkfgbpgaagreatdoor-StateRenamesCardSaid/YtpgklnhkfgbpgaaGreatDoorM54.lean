/- StateRenames: the walk. -/
import Derived.Test.YtpgklnhkfgbpgaaGreatDoorM45
import Derived.Test.YtpgklnhkfgbpgaaGreatDoorM48
import Derived.Test.YtpgklnhkfgbpgaaGreatDoorM53
--%tk
namespace Go.Proofs.YtpgklnhkfgbpgaaGreatDoor.stateRenames
open Go.ChangeShapes Go.WideShapes Go.ChangeAt Go.RowKit
set_option linter.unusedVariables false
set_option linter.unusedSimpArgs false

def rnS (d : List UInt8) (u : Int) : Nat → StM
  | 0 => newSt
  | 1 => stR rn1 none
  | 2 => stR (rn2 [] false 0) (some ⟨true, 2, []⟩)
  | 3 => stR (rn2 d false 0) (some ⟨true, 2, []⟩)
  | 4 => stR (rn2 d true u) none
  | 5 => stR (rn5 d u false) (some ⟨true, 3, []⟩)
  | _ => stR (rn5 d u true) none
def rnRow (da : Option Addr) (dc : Nat) (d : List UInt8) (u : Int) : Obj := (.cells #[.int .i64 2, .string ⟨#[47, 100]⟩, .string ⟨#[]⟩, .int .i64 0, .int .i64 0, .int .i64 0, .int .u64 0, .int .i64 0, .slice none 0 0, .int .i64 1, .string ⟨#[47, 100, 47, 97]⟩, .string ⟨#[]⟩, .int .i64 0, .int .i64 0, .int .i64 0, .int .u64 0, .int .i64 0, .slice none 0 0, .int .i64 5, .string ⟨#[]⟩, .string ⟨#[]⟩, .int .i64 0, .int .i64 0, .int .i64 0, .int .u64 0, .int .i64 0, .slice da d.length dc, .int .i64 6, .string ⟨#[]⟩, .string ⟨#[]⟩, .int .i64 0, .int .i64 0, .int .i64 0, .int .u64 u, .int .i64 0, .slice none 0 0, .int .i64 1, .string ⟨#[47, 98]⟩, .string ⟨#[]⟩, .int .i64 0, .int .i64 0, .int .i64 0, .int .u64 0, .int .i64 0, .slice none 0 0, .int .i64 6, .string ⟨#[]⟩, .string ⟨#[]⟩, .int .i64 0, .int .i64 0, .int .i64 0, .int .u64 0, .int .i64 0, .slice none 0 0] 36 (0, 0))
def SRel (W : World) (da : Option Addr) (dc : Nat) (d : List UInt8) (u : Int) (p g : Nat) (iv : Value) (wr : World) : Prop := ∃ (k : Nat) (o : Mark), iv = .int .i64 k ∧ k ≤ 6 ∧ StW W o 1 wr p (1 + k) (rnS d u k) ∧ Froz o wr g (rnRow da dc d u)
set_option maxRecDepth 100000 in
set_option maxHeartbeats 64000000 in
theorem walk {H : Type} {enc : TypeId × Value → H} (W : World) (base : Nat) (hsh : W.ShapedOpen Tryz.prog) (v0 : Value) (d0 : DataW H) (p0 : List MemPlace) (o0 : Value.okWide Tryz.prog W .any base 22 v0) (h0 : DataW.Trod enc Tryz.prog W 0 (fun _ => true) true 22 v0 d0 p0) (l0 : ∀ x ∈ p0, x.block < W.heap.size) (a1 : Int) (w1 : (Lit.int .u64 a1).wf = true) (hsz : (DataW.weightsEach Tryz.prog [22, 29] ([d0, .lit (.int .u64 a1)] : List (DataW H))).all (· ≤ reachBytes) = true) :
    Calls Tryz.prog 4 #[v0, .int .u64 a1] W (Fine W) := by
  obtain ⟨m, hm, -⟩ := maxLen_cell hsh
  obtain ⟨da, dn, dc, bs, rfl, hdc, hda⟩ : ∃ a len cap bs, v0 = .slice a len cap ∧ len ≤ cap ∧ RowAt (Old W) W a len ((bs : List UInt8).map bv) := by
    obtain ⟨a0, len, cap, rfl⟩ := okWide_slice Tryz.underlying22 o0
    obtain ⟨fuel, hf⟩ := h0
    exact open_bytesT hf l0
  have HM := Lib.hid hm
  have b1 := (u64_of_wfO w1).1
  obtain ⟨v, hv⟩ : ∃ v, v = a1 % 100 := ⟨_, rfl⟩
  have hv1 : a1.tmod 100 = v := by rw [hv]; exact Int.tmod_eq_emod_of_nonneg b1
  have bv' : 0 ≤ v ∧ v < 100 := by omega
  have hv2 := hv.symm
  obtain ⟨u, hu⟩ : ∃ u, u = 1 + v := ⟨_, rfl⟩
  have hwu : IntKind.u64.wrap (1 + v) = u := by
    rw [hu]
    show (1 + v) % 18446744073709551616 = 1 + v
    omega
  have bu : 0 < u ∧ u ≤ 100 := by omega
  obtain ⟨d, hd⟩ : ∃ d, d = bs.take 200 := ⟨_, rfl⟩
  have hdl : min dn 200 = d.length := by rw [hd, List.length_take, show bs.length = dn by simpa using hda.length, Nat.min_comm]
  have HDA : Hid (RowAt (Old W) W da d.length (d.map bv)) := by
    have := hda.take 200
    rw [hdl, ← List.map_take, ← hd] at this
    exact this
  have hd5 : d.length ≤ 200 := by omega
  have HCUT : Hid (∀ w : World, Calls Tryz.prog 13 #[.slice da dn dc, .int .i64 200] w fun e w' => e = .returned (.slice da d.length dc) ∧ w = w') := fun w => by
    have := cut_any da dn dc 200 hdc (by omega) hda.small w
    rw [hdl] at this
    exact this
  have hfl := field_er
  have hfl2 := field_node
  clear hm o0 h0 l0 hsz hsh w1 hda hdl hd hdc hv hu
  go_enter Tryz.func4, Tryz.ntmps4
  go_wp2_with fail
  (with_reducible refine (st_new (i := 1) (marks0 W) (by omega)).mono ?_)
  rintro e w1 ⟨ps, o1, rfl, hs1, hS1⟩
  have HS1 := Lib.hid hS1
  clear hs1 hS1
  go_wp2_with fail
  (with_reducible refine (HCUT.out _).mono ?_)
  rintro e _ ⟨rfl, rfl⟩
  have HF := Lib.hid (Froz.new HS1.out.marks (rnRow da dc d u))
  have HSR := Lib.hid (HS1.out.grow (wall w1 (rnRow da dc d u)))
  unfold rnRow at HF HSR
  clear HS1 HCUT
  go_wp2_with fail
  go_loopw [7, 29] (fun _ iv wr => SRel W da dc d u ps w1.heap.size iv wr) (fun _ iv _ => 6 - (intOf iv).toNat)
  case atStart => exact ⟨0, _, rfl, by omega, HSR.out.mono (by omega), HF.out⟩
  case round =>
    obtain ⟨k, o2, rfl, hk, hS, hF⟩ := hrel
    have HS := Lib.hid hS
    have HF2 := Lib.hid hF
    clear hS HSR HF
    have hat := hF.at_
    unfold rnRow at hat
    clear hF
    rcases (show k = 0 ∨ k = 1 ∨ k = 2 ∨ k = 3 ∨ k = 4 ∨ k = 5 ∨ k = 6 by omega) with rfl | rfl | rfl | rfl | rfl | rfl | rfl
    · have HSK : Hid (StW W o2 1 wr ps (1 + 0) (rnS d u 0)) := HS
      have d0 : wr.cell? ⟨w1.heap.size, 0, none⟩ = some (.int .i64 2) := by simp [World.cell?, hat]
      have d1 : wr.cell? ⟨w1.heap.size, 1, none⟩ = some (.string ⟨#[47, 100]⟩) := by simp [World.cell?, hat]
      have d2 : wr.cell? ⟨w1.heap.size, 2, none⟩ = some (.string ⟨#[]⟩) := by simp [World.cell?, hat]
      have d3 : wr.cell? ⟨w1.heap.size, 3, none⟩ = some (.int .i64 0) := by simp [World.cell?, hat]
      have d4 : wr.cell? ⟨w1.heap.size, 4, none⟩ = some (.int .i64 0) := by simp [World.cell?, hat]
      have d5 : wr.cell? ⟨w1.heap.size, 5, none⟩ = some (.int .i64 0) := by simp [World.cell?, hat]
      have d6 : wr.cell? ⟨w1.heap.size, 6, none⟩ = some (.int .u64 0) := by simp [World.cell?, hat]
      have d7 : wr.cell? ⟨w1.heap.size, 7, none⟩ = some (.int .i64 0) := by simp [World.cell?, hat]
      have d8 : wr.cell? ⟨w1.heap.size, 8, none⟩ = some (.slice none 0 0) := by simp [World.cell?, hat]
      clear hat
      go_wp2_with fail
      have HS3 := Lib.hid (HSK.out.grow (wall wr (.cells #[.int .i64 2, .string ⟨#[47, 100]⟩, .string ⟨#[]⟩, .int .i64 0, .int .i64 0, .int .i64 0, .int .u64 0, .int .i64 0, .slice none 0 0] 36)))
      have HF3 := Lib.hid (HF2.out.grow HSK.out.marks (wall wr (.cells #[.int .i64 2, .string ⟨#[47, 100]⟩, .string ⟨#[]⟩, .int .i64 0, .int .i64 0, .int .i64 0, .int .u64 0, .int .i64 0, .slice none 0 0] 36)))
      clear d0 d1 d2 d3 d4 d5 d6 d7 d8 HS HF2
      have HC := Lib.hid (st_doE0 HS3.out (by omega) (by omega) (pO 2 [47, 100] []) (pO_ok 2 _ _ (by omega) (by simp) (by simp)) m HM.out (opA 2 ⟨#[47, 100]⟩ ⟨#[]⟩ 0 0 0 0 0 none 0 0) rfl rfl rn_mkdir)
      (with_reducible refine HC.out.mono ?_)
      rintro e w5 ⟨o5, ⟨y5, rfl, da5, la5, dc5, lc5, rfl, -, -, -, -⟩, hs5, hS5⟩
      have HS5 := Lib.hid hS5
      have HF5 := Lib.hid (HF3.out.five (by omega) hs5)
      clear hs5 hS5 HC
      unfold reC
      try unfold noM
      go_wp2_with fail
      go_roundw
      case rel => exact ⟨1, o5, by go_num, by omega, HS5.out.mono (by omega), HF5.out⟩
      case measure => simp [intOf]
    · have HSK : Hid (StW W o2 1 wr ps (1 + 1) (rnS d u 1)) := HS
      have d0 : wr.cell? ⟨w1.heap.size, 9, none⟩ = some (.int .i64 1) := by simp [World.cell?, hat]
      have d1 : wr.cell? ⟨w1.heap.size, 10, none⟩ = some (.string ⟨#[47, 100, 47, 97]⟩) := by simp [World.cell?, hat]
      have d2 : wr.cell? ⟨w1.heap.size, 11, none⟩ = some (.string ⟨#[]⟩) := by simp [World.cell?, hat]
      have d3 : wr.cell? ⟨w1.heap.size, 12, none⟩ = some (.int .i64 0) := by simp [World.cell?, hat]
      have d4 : wr.cell? ⟨w1.heap.size, 13, none⟩ = some (.int .i64 0) := by simp [World.cell?, hat]
      have d5 : wr.cell? ⟨w1.heap.size, 14, none⟩ = some (.int .i64 0) := by simp [World.cell?, hat]
      have d6 : wr.cell? ⟨w1.heap.size, 15, none⟩ = some (.int .u64 0) := by simp [World.cell?, hat]
      have d7 : wr.cell? ⟨w1.heap.size, 16, none⟩ = some (.int .i64 0) := by simp [World.cell?, hat]
      have d8 : wr.cell? ⟨w1.heap.size, 17, none⟩ = some (.slice none 0 0) := by simp [World.cell?, hat]
      clear hat
      go_wp2_with fail
      have HS3 := Lib.hid (HSK.out.grow (wall wr (.cells #[.int .i64 1, .string ⟨#[47, 100, 47, 97]⟩, .string ⟨#[]⟩, .int .i64 0, .int .i64 0, .int .i64 0, .int .u64 0, .int .i64 0, .slice none 0 0] 36)))
      have HF3 := Lib.hid (HF2.out.grow HSK.out.marks (wall wr (.cells #[.int .i64 1, .string ⟨#[47, 100, 47, 97]⟩, .string ⟨#[]⟩, .int .i64 0, .int .i64 0, .int .i64 0, .int .u64 0, .int .i64 0, .slice none 0 0] 36)))
      clear d0 d1 d2 d3 d4 d5 d6 d7 d8 HS HF2
      have HC := Lib.hid (st_doE0 HS3.out (by omega) (by omega) (pO 1 [47, 100, 47, 97] []) (pO_ok 1 _ _ (by omega) (by simp) (by simp)) m HM.out (opA 1 ⟨#[47, 100, 47, 97]⟩ ⟨#[]⟩ 0 0 0 0 0 none 0 0) rfl rfl rn_c2)
      (with_reducible refine HC.out.mono ?_)
      rintro e w5 ⟨o5, ⟨y5, rfl, da5, la5, dc5, lc5, rfl, -, -, -, -⟩, hs5, hS5⟩
      have HS5 := Lib.hid hS5
      have HF5 := Lib.hid (HF3.out.five (by omega) hs5)
      clear hs5 hS5 HC
      unfold reC
      try unfold noM
      go_wp2_with fail
      go_roundw
      case rel => exact ⟨2, o5, by go_num, by omega, HS5.out.mono (by omega), HF5.out⟩
      case measure => simp [intOf]
    · have HSK : Hid (StW W o2 1 wr ps (1 + 2) (rnS d u 2)) := HS
      have d0 : wr.cell? ⟨w1.heap.size, 18, none⟩ = some (.int .i64 5) := by simp [World.cell?, hat]
      have d1 : wr.cell? ⟨w1.heap.size, 19, none⟩ = some (.string ⟨#[]⟩) := by simp [World.cell?, hat]
      have d2 : wr.cell? ⟨w1.heap.size, 20, none⟩ = some (.string ⟨#[]⟩) := by simp [World.cell?, hat]
      have d3 : wr.cell? ⟨w1.heap.size, 21, none⟩ = some (.int .i64 0) := by simp [World.cell?, hat]
      have d4 : wr.cell? ⟨w1.heap.size, 22, none⟩ = some (.int .i64 0) := by simp [World.cell?, hat]
      have d5 : wr.cell? ⟨w1.heap.size, 23, none⟩ = some (.int .i64 0) := by simp [World.cell?, hat]
      have d6 : wr.cell? ⟨w1.heap.size, 24, none⟩ = some (.int .u64 0) := by simp [World.cell?, hat]
      have d7 : wr.cell? ⟨w1.heap.size, 25, none⟩ = some (.int .i64 0) := by simp [World.cell?, hat]
      have d8 : wr.cell? ⟨w1.heap.size, 26, none⟩ = some (.slice da d.length dc) := by simp [World.cell?, hat]
      clear hat
      go_wp2_with fail
      have HS3 := Lib.hid (HSK.out.grow (wall wr (.cells #[.int .i64 5, .string ⟨#[]⟩, .string ⟨#[]⟩, .int .i64 0, .int .i64 0, .int .i64 0, .int .u64 0, .int .i64 0, .slice da d.length dc] 36)))
      have HF3 := Lib.hid (HF2.out.grow HSK.out.marks (wall wr (.cells #[.int .i64 5, .string ⟨#[]⟩, .string ⟨#[]⟩, .int .i64 0, .int .i64 0, .int .i64 0, .int .u64 0, .int .i64 0, .slice da d.length dc] 36)))
      clear d0 d1 d2 d3 d4 d5 d6 d7 d8 HS HF2
      have HC := Lib.hid (st_doE HS3.out (by omega) (by omega) (wrO d) (wrO_ok d (by omega)) da dc (HDA.out.below HS3.out.below (Nat.le_refl _)) m HM.out (opA 5 ⟨#[]⟩ ⟨#[]⟩ 0 0 0 0 0 da d.length dc) rfl (rn_w3 d (by omega)))
      (with_reducible refine HC.out.mono ?_)
      rintro e w5 ⟨o5, ⟨y5, rfl, da5, la5, dc5, lc5, rfl, -, -, -, -⟩, hs5, hS5⟩
      have HS5 := Lib.hid hS5
      have HF5 := Lib.hid (HF3.out.five (by omega) hs5)
      clear hs5 hS5 HC
      unfold reC
      try unfold noM
      go_wp2_with fail
      go_roundw
      case rel => exact ⟨3, o5, by go_num, by omega, HS5.out.mono (by omega), HF5.out⟩
      case measure => simp [intOf]
    · have HSK : Hid (StW W o2 1 wr ps (1 + 3) (rnS d u 3)) := HS
      have d0 : wr.cell? ⟨w1.heap.size, 27, none⟩ = some (.int .i64 6) := by simp [World.cell?, hat]
      have d1 : wr.cell? ⟨w1.heap.size, 28, none⟩ = some (.string ⟨#[]⟩) := by simp [World.cell?, hat]
      have d2 : wr.cell? ⟨w1.heap.size, 29, none⟩ = some (.string ⟨#[]⟩) := by simp [World.cell?, hat]
      have d3 : wr.cell? ⟨w1.heap.size, 30, none⟩ = some (.int .i64 0) := by simp [World.cell?, hat]
      have d4 : wr.cell? ⟨w1.heap.size, 31, none⟩ = some (.int .i64 0) := by simp [World.cell?, hat]
      have d5 : wr.cell? ⟨w1.heap.size, 32, none⟩ = some (.int .i64 0) := by simp [World.cell?, hat]
      have d6 : wr.cell? ⟨w1.heap.size, 33, none⟩ = some (.int .u64 u) := by simp [World.cell?, hat]
      have d7 : wr.cell? ⟨w1.heap.size, 34, none⟩ = some (.int .i64 0) := by simp [World.cell?, hat]
      have d8 : wr.cell? ⟨w1.heap.size, 35, none⟩ = some (.slice none 0 0) := by simp [World.cell?, hat]
      clear hat
      go_wp2_with fail
      have HS3 := Lib.hid (HSK.out.grow (wall wr (.cells #[.int .i64 6, .string ⟨#[]⟩, .string ⟨#[]⟩, .int .i64 0, .int .i64 0, .int .i64 0, .int .u64 u, .int .i64 0, .slice none 0 0] 36)))
      have HF3 := Lib.hid (HF2.out.grow HSK.out.marks (wall wr (.cells #[.int .i64 6, .string ⟨#[]⟩, .string ⟨#[]⟩, .int .i64 0, .int .i64 0, .int .i64 0, .int .u64 u, .int .i64 0, .slice none 0 0] 36)))
      clear d0 d1 d2 d3 d4 d5 d6 d7 d8 HS HF2
      have HC := Lib.hid (st_doE0 HS3.out (by omega) (by omega) (clO u) (clO_ok u (by omega)) m HM.out (opA 6 ⟨#[]⟩ ⟨#[]⟩ 0 0 0 u 0 none 0 0) rfl rfl (rn_s4 d u (by omega)))
      (with_reducible refine HC.out.mono ?_)
      rintro e w5 ⟨o5, ⟨y5, rfl, da5, la5, dc5, lc5, rfl, -, -, -, -⟩, hs5, hS5⟩
      have HS5 := Lib.hid hS5
      have HF5 := Lib.hid (HF3.out.five (by omega) hs5)
      clear hs5 hS5 HC
      unfold reC
      try unfold noM
      go_wp2_with fail
      go_roundw
      case rel => exact ⟨4, o5, by go_num, by omega, HS5.out.mono (by omega), HF5.out⟩
      case measure => simp [intOf]
    · have HSK : Hid (StW W o2 1 wr ps (1 + 4) (rnS d u 4)) := HS
      have d0 : wr.cell? ⟨w1.heap.size, 36, none⟩ = some (.int .i64 1) := by simp [World.cell?, hat]
      have d1 : wr.cell? ⟨w1.heap.size, 37, none⟩ = some (.string ⟨#[47, 98]⟩) := by simp [World.cell?, hat]
      have d2 : wr.cell? ⟨w1.heap.size, 38, none⟩ = some (.string ⟨#[]⟩) := by simp [World.cell?, hat]
      have d3 : wr.cell? ⟨w1.heap.size, 39, none⟩ = some (.int .i64 0) := by simp [World.cell?, hat]
      have d4 : wr.cell? ⟨w1.heap.size, 40, none⟩ = some (.int .i64 0) := by simp [World.cell?, hat]
      have d5 : wr.cell? ⟨w1.heap.size, 41, none⟩ = some (.int .i64 0) := by simp [World.cell?, hat]
      have d6 : wr.cell? ⟨w1.heap.size, 42, none⟩ = some (.int .u64 0) := by simp [World.cell?, hat]
      have d7 : wr.cell? ⟨w1.heap.size, 43, none⟩ = some (.int .i64 0) := by simp [World.cell?, hat]
      have d8 : wr.cell? ⟨w1.heap.size, 44, none⟩ = some (.slice none 0 0) := by simp [World.cell?, hat]
      clear hat
      go_wp2_with fail
      have HS3 := Lib.hid (HSK.out.grow (wall wr (.cells #[.int .i64 1, .string ⟨#[47, 98]⟩, .string ⟨#[]⟩, .int .i64 0, .int .i64 0, .int .i64 0, .int .u64 0, .int .i64 0, .slice none 0 0] 36)))
      have HF3 := Lib.hid (HF2.out.grow HSK.out.marks (wall wr (.cells #[.int .i64 1, .string ⟨#[47, 98]⟩, .string ⟨#[]⟩, .int .i64 0, .int .i64 0, .int .i64 0, .int .u64 0, .int .i64 0, .slice none 0 0] 36)))
      clear d0 d1 d2 d3 d4 d5 d6 d7 d8 HS HF2
      have HC := Lib.hid (st_doE0 HS3.out (by omega) (by omega) (pO 1 [47, 98] []) (pO_ok 1 _ _ (by omega) (by simp) (by simp)) m HM.out (opA 1 ⟨#[47, 98]⟩ ⟨#[]⟩ 0 0 0 0 0 none 0 0) rfl rfl (rn_c5 d u))
      (with_reducible refine HC.out.mono ?_)
      rintro e w5 ⟨o5, ⟨y5, rfl, da5, la5, dc5, lc5, rfl, -, -, -, -⟩, hs5, hS5⟩
      have HS5 := Lib.hid hS5
      have HF5 := Lib.hid (HF3.out.five (by omega) hs5)
      clear hs5 hS5 HC
      unfold reC
      try unfold noM
      go_wp2_with fail
      go_roundw
      case rel => exact ⟨5, o5, by go_num, by omega, HS5.out.mono (by omega), HF5.out⟩
      case measure => simp [intOf]
    · have HSK : Hid (StW W o2 1 wr ps (1 + 5) (rnS d u 5)) := HS
      have d0 : wr.cell? ⟨w1.heap.size, 45, none⟩ = some (.int .i64 6) := by simp [World.cell?, hat]
      have d1 : wr.cell? ⟨w1.heap.size, 46, none⟩ = some (.string ⟨#[]⟩) := by simp [World.cell?, hat]
      have d2 : wr.cell? ⟨w1.heap.size, 47, none⟩ = some (.string ⟨#[]⟩) := by simp [World.cell?, hat]
      have d3 : wr.cell? ⟨w1.heap.size, 48, none⟩ = some (.int .i64 0) := by simp [World.cell?, hat]
      have d4 : wr.cell? ⟨w1.heap.size, 49, none⟩ = some (.int .i64 0) := by simp [World.cell?, hat]
      have d5 : wr.cell? ⟨w1.heap.size, 50, none⟩ = some (.int .i64 0) := by simp [World.cell?, hat]
      have d6 : wr.cell? ⟨w1.heap.size, 51, none⟩ = some (.int .u64 0) := by simp [World.cell?, hat]
      have d7 : wr.cell? ⟨w1.heap.size, 52, none⟩ = some (.int .i64 0) := by simp [World.cell?, hat]
      have d8 : wr.cell? ⟨w1.heap.size, 53, none⟩ = some (.slice none 0 0) := by simp [World.cell?, hat]
      clear hat
      go_wp2_with fail
      have HS3 := Lib.hid (HSK.out.grow (wall wr (.cells #[.int .i64 6, .string ⟨#[]⟩, .string ⟨#[]⟩, .int .i64 0, .int .i64 0, .int .i64 0, .int .u64 0, .int .i64 0, .slice none 0 0] 36)))
      have HF3 := Lib.hid (HF2.out.grow HSK.out.marks (wall wr (.cells #[.int .i64 6, .string ⟨#[]⟩, .string ⟨#[]⟩, .int .i64 0, .int .i64 0, .int .i64 0, .int .u64 0, .int .i64 0, .slice none 0 0] 36)))
      clear d0 d1 d2 d3 d4 d5 d6 d7 d8 HS HF2
      have HC := Lib.hid (st_doE0 HS3.out (by omega) (by omega) (clO 0) (clO_ok 0 (by omega)) m HM.out (opA 6 ⟨#[]⟩ ⟨#[]⟩ 0 0 0 0 0 none 0 0) rfl rfl (rn_s6 d u))
      (with_reducible refine HC.out.mono ?_)
      rintro e w5 ⟨o5, ⟨y5, rfl, da5, la5, dc5, lc5, rfl, -, -, -, -⟩, hs5, hS5⟩
      have HS5 := Lib.hid hS5
      have HF5 := Lib.hid (HF3.out.five (by omega) hs5)
      clear hs5 hS5 HC
      unfold reC
      try unfold noM
      go_wp2_with fail
      go_roundw
      case rel => exact ⟨6, o5, by go_num, by omega, HS5.out.mono (by omega), HF5.out⟩
      case measure => simp [intOf]
    · have HSK : Hid (StW W o2 1 wr ps 7 (stR (rn5 d u true) none)) := HS
      clear hat HS HF2
      have HC21 := Lib.hid (st_doE0 HSK.out (by omega) (by omega) (pO 12 [47, 100, 47, 97] []) (pO_ok 12 _ _ (by omega) (by simp) (by simp)) m HM.out (opA 12 ⟨#[47, 100, 47, 97]⟩ ⟨#[]⟩ 0 0 0 0 0 none 0 0) rfl rfl (rn_stat d u))
      go_wp2_with fail
      (with_reducible refine HC21.out.mono ?_)
      rintro e w21 ⟨o21, ⟨y21, rfl, da21, la21, dc21, lc21, rfl, p1, p2, p3, p4⟩, hs21, hS21⟩
      have HS21 := Lib.hid hS21
      have HR21 := Lib.hid (And.intro p1 (And.intro p2 (And.intro p3 p4)))
      clear hs21 hS21 p1 p2 p3 p4 HC21 HSK
      unfold reC rnNode
      have HWAS := Lib.hid (Froz.new HS21.out.marks (.cells #[.int .i64 2, .int .i64 1, .int .i64 1, .int .i64 d.length, .int .u64 u, .bool true] 31 (0, 0)))
      have hbz := wall w21 (.cells #[.int .i64 2, .int .i64 1, .int .i64 1, .int .i64 d.length, .int .u64 u, .bool true] 31 (0, 0))
      have HS22 := Lib.hid (HS21.out.grow hbz)
      clear HS21
      clear hbz
      have HC23 := Lib.hid (st_doE0 HS22.out (by omega) (by omega) (pO 10 [47, 98] [47, 100, 47, 97]) (pO_ok 10 _ _ (by omega) (by simp) (by simp)) m HM.out (opA 10 ⟨#[47, 98]⟩ ⟨#[47, 100, 47, 97]⟩ 0 0 0 0 0 none 0 0) rfl rfl (rn_ren1 d u))
      go_wp2_with fail
      (with_reducible refine HC23.out.mono ?_)
      rintro e w23 ⟨o23, ⟨y23, rfl, da23, la23, dc23, lc23, rfl, p1, p2, p3, p4⟩, hs23, hS23⟩
      have HS23 := Lib.hid hS23
      have HR23 := Lib.hid (And.intro p1 (And.intro p2 (And.intro p3 p4)))
      have HFZ24 := Lib.hid (HWAS.out.five (by omega) hs23)
      clear HWAS
      clear hs23 hS23 p1 p2 p3 p4 HC23 HS22
      unfold reC
      try unfold noM
      have HC25 := Lib.hid (st_doE0 HS23.out (by omega) (by omega) (pO 9 [47, 100] []) (pO_ok 9 _ _ (by omega) (by simp) (by simp)) m HM.out (opA 9 ⟨#[47, 100]⟩ ⟨#[]⟩ 0 0 0 0 0 none 0 0) rfl rfl (rn_rmd1 d u))
      go_wp2_with fail
      (with_reducible refine HC25.out.mono ?_)
      rintro e w25 ⟨o25, ⟨y25, rfl, da25, la25, dc25, lc25, rfl, p1, p2, p3, p4⟩, hs25, hS25⟩
      have HS25 := Lib.hid hS25
      have HR25 := Lib.hid (And.intro p1 (And.intro p2 (And.intro p3 p4)))
      have HFZ26 := Lib.hid (HFZ24.out.five (by omega) hs25)
      clear HFZ24
      clear hs25 hS25 p1 p2 p3 p4 HC25 HS23
      unfold reC
      try unfold noM
      have HC27 := Lib.hid (st_doE0 HS25.out (by omega) (by omega) (pO 1 [47, 100, 47, 97] []) (pO_ok 1 _ _ (by omega) (by simp) (by simp)) m HM.out (opA 1 ⟨#[47, 100, 47, 97]⟩ ⟨#[]⟩ 0 0 0 0 0 none 0 0) rfl rfl (rn_cre1 d u))
      go_wp2_with fail
      (with_reducible refine HC27.out.mono ?_)
      rintro e w27 ⟨o27, ⟨y27, rfl, da27, la27, dc27, lc27, rfl, p1, p2, p3, p4⟩, hs27, hS27⟩
      have HS27 := Lib.hid hS27
      have HR27 := Lib.hid (And.intro p1 (And.intro p2 (And.intro p3 p4)))
      have HFZ28 := Lib.hid (HFZ26.out.five (by omega) hs27)
      clear HFZ26
      clear hs27 hS27 p1 p2 p3 p4 HC27 HS25
      unfold reC
      try unfold noM
      have HC29 := Lib.hid (st_doE0 HS27.out (by omega) (by omega) (pO 10 [47, 100] [47, 101]) (pO_ok 10 _ _ (by omega) (by simp) (by simp)) m HM.out (opA 10 ⟨#[47, 100]⟩ ⟨#[47, 101]⟩ 0 0 0 0 0 none 0 0) rfl rfl (rn_ren2 d u))
      go_wp2_with fail
      (with_reducible refine HC29.out.mono ?_)
      rintro e w29 ⟨o29, ⟨y29, rfl, da29, la29, dc29, lc29, rfl, p1, p2, p3, p4⟩, hs29, hS29⟩
      have HS29 := Lib.hid hS29
      have HR29 := Lib.hid (And.intro p1 (And.intro p2 (And.intro p3 p4)))
      have HFZ30 := Lib.hid (HFZ28.out.five (by omega) hs29)
      clear HFZ28
      clear hs29 hS29 p1 p2 p3 p4 HC29 HS27
      unfold reC
      try unfold noM
      have HC31 := Lib.hid (st_doE0 HS29.out (by omega) (by omega) (pO 10 [47, 101, 47, 97] [47, 122]) (pO_ok 10 _ _ (by omega) (by simp) (by simp)) m HM.out (opA 10 ⟨#[47, 101, 47, 97]⟩ ⟨#[47, 122]⟩ 0 0 0 0 0 none 0 0) rfl rfl (rn_ren3 d u))
      go_wp2_with fail
      (with_reducible refine HC31.out.mono ?_)
      rintro e w31 ⟨o31, ⟨y31, rfl, da31, la31, dc31, lc31, rfl, p1, p2, p3, p4⟩, hs31, hS31⟩
      have HS31 := Lib.hid hS31
      have HR31 := Lib.hid (And.intro p1 (And.intro p2 (And.intro p3 p4)))
      have HFZ32 := Lib.hid (HFZ30.out.five (by omega) hs31)
      clear HFZ30
      clear hs31 hS31 p1 p2 p3 p4 HC31 HS29
      unfold reC
      try unfold noM
      have HC33 := Lib.hid (st_doE0 HS31.out (by omega) (by omega) (pO 12 [47, 100, 47, 97] []) (pO_ok 12 _ _ (by omega) (by simp) (by simp)) m HM.out (opA 12 ⟨#[47, 100, 47, 97]⟩ ⟨#[]⟩ 0 0 0 0 0 none 0 0) rfl rfl (rn_stat2 d u))
      go_wp2_with fail
      (with_reducible refine HC33.out.mono ?_)
      rintro e w33 ⟨o33, ⟨y33, rfl, da33, la33, dc33, lc33, rfl, p1, p2, p3, p4⟩, hs33, hS33⟩
      have HS33 := Lib.hid hS33
      have HR33 := Lib.hid (And.intro p1 (And.intro p2 (And.intro p3 p4)))
      have HFZ34 := Lib.hid (HFZ32.out.five (by omega) hs33)
      clear HFZ32
      clear hs33 hS33 p1 p2 p3 p4 HC33 HS31
      unfold reC
      try unfold noM
      have HC35 := Lib.hid (st_doE0 HS33.out (by omega) (by omega) (pO 3 [47, 122] []) (pO_ok 3 _ _ (by omega) (by simp) (by simp)) m HM.out (opA 3 ⟨#[47, 122]⟩ ⟨#[]⟩ 0 0 0 0 0 none 0 0) rfl rfl (rn_open d u))
      go_wp2_with fail
      (with_reducible refine HC35.out.mono ?_)
      rintro e w35 ⟨o35, ⟨y35, rfl, da35, la35, dc35, lc35, rfl, p1, p2, p3, p4⟩, hs35, hS35⟩
      have HS35 := Lib.hid hS35
      have HR35 := Lib.hid (And.intro p1 (And.intro p2 (And.intro p3 p4)))
      have HFZ36 := Lib.hid (HFZ34.out.five (by omega) hs35)
      clear HFZ34
      clear hs35 hS35 p1 p2 p3 p4 HC35 HS33
      go_wp2_with (refine wpList_store_rep (by rfl) 33 _ _ (by rfl) _ (reC ⟨0, 0, [], [], none⟩ da35 la35 dc35 lc35) (by rfl) (by rfl) _ (MapKept.heap_alloc _ _).1 repSize rfl (reC_one _ _ _ _ _) ?_; intro w37 hs37; have HW37 := Lib.hid hs37; clear hs37; obtain ⟨hv37, hb37⟩ := rep_var HS35.out.marks HR35.out.1 HR35.out.2.1 HR35.out.2.2.1 HR35.out.2.2.2 HW37.out; have HV37 := Lib.hid hv37; have HFZ38 := Lib.hid (HFZ36.out.grow HS35.out.marks hb37); clear HFZ36; have HS39 := Lib.hid (HS35.out.grow hb37); clear HS35; clear hv37 hb37 HW37 HR35; have c1 := HV37.out.n; dsimp only at c1)
      have HC40 := Lib.hid (st_doE0 HS39.out (by omega) (by omega) (rdO 0 4096) (rdO_ok 0 4096 (by omega) (by omega)) m HM.out (opA 4 ⟨#[]⟩ ⟨#[]⟩ 0 0 4096 0 0 none 0 0) rfl rfl (do_readall (d := d) (id := 0) rfl (by omega)))
      (with_reducible refine HC40.out.mono ?_)
      rintro e w40 ⟨o40, ⟨y40, rfl, da40, la40, dc40, lc40, rfl, p1, p2, p3, p4⟩, hs40, hS40⟩
      have HS40 := Lib.hid hS40
      have HR40 := Lib.hid (And.intro p1 (And.intro p2 (And.intro p3 p4)))
      have HV41 := Lib.hid (HV37.out.five (by omega) hs40)
      clear HV37
      have HFZ42 := Lib.hid (HFZ38.out.five (by omega) hs40)
      clear HFZ38
      clear hs40 hS40 p1 p2 p3 p4 HC40 HS39
      go_wp2_with (refine wpList_store_rep (by rfl) 33 _ _ (by rfl) _ (reC ⟨0, d.length, d, [], none⟩ da40 la40 dc40 lc40) (by rfl) (by rfl) _ (MapKept.heap_alloc _ _).1 repSize rfl (reC_one _ _ _ _ _) ?_; intro w43 hs43; have HW43 := Lib.hid hs43; clear hs43; obtain ⟨hv43, hb43⟩ := rep_var HS40.out.marks HR40.out.1 HR40.out.2.1 HR40.out.2.2.1 HR40.out.2.2.2 HW43.out; have HV43 := Lib.hid hv43; have HFZ44 := Lib.hid (HFZ42.out.grow HS40.out.marks hb43); clear HFZ42; have HV45 := Lib.hid (HV41.out.grow HS40.out.marks hb43); clear HV41; have HS46 := Lib.hid (HS40.out.grow hb43); clear HS40; clear hv43 hb43 HW43 HR40)
      clear c1
      have HSA : Hid (∀ (o9 : Mark) (w9 : World) (c9 : Int) (M9 : StM), StW W o9 1 w9 ps c9 M9 → RepV o9 w9 w35.heap.size ⟨0, 0, [], [], none⟩ da35 la35 dc35 lc35 → RepV o9 w9 w40.heap.size ⟨0, d.length, d, [], none⟩ da40 la40 dc40 lc40 → Froz o9 w9 w21.heap.size (.cells #[.int .i64 2, .int .i64 1, .int .i64 1, .int .i64 d.length, .int .u64 u, .bool true] 31 (0, 0)) → (fun w' => Below W.heap.size W w' ∧ w'.cell? ⟨w21.heap.size, 0, none⟩ = some (.int .i64 2) ∧ w'.cell? ⟨w21.heap.size, 1, none⟩ = some (.int .i64 1) ∧ w'.cell? ⟨w21.heap.size, 2, none⟩ = some (.int .i64 1) ∧ w'.cell? ⟨w21.heap.size, 3, none⟩ = some (.int .i64 d.length) ∧ w'.cell? ⟨w21.heap.size, 4, none⟩ = some (.int .u64 u) ∧ w'.cell? ⟨w21.heap.size, 5, none⟩ = some (.bool true) ∧ w'.cell? ⟨w35.heap.size, 0, none⟩ = some (.int .i64 0) ∧ w'.cell? ⟨w40.heap.size, 2, none⟩ = some (.slice da40 d.length dc40) ∧ (convert 22 9 (.slice da40 d.length dc40)).run Tryz.prog w' = .ok (.string (strOf d)) w' ∧ (convert 22 9 (.slice da d.length dc)).run Tryz.prog w' = .ok (.string (strOf d)) w') w9) := fun o9 w9 c9 M9 h1 h2 h3 h4 => by
        have e := h4.at_
        exact ⟨h1.below, by simp [World.cell?, e], by simp [World.cell?, e], by simp [World.cell?, e], by simp [World.cell?, e], by simp [World.cell?, e], by simp [World.cell?, e], h2.er, h3.dat, conv_row h3.data, conv_row (HDA.out.below h1.below (Nat.le_refl _))⟩
      have HZS := Lib.hid (HS46.out.grow (Below.refl _ _).drew)
      have HZR := Lib.hid (HV45.out.grow HS46.out.marks (Below.refl _ _).drew)
      have HZB := Lib.hid (HV43.out.grow HS46.out.marks (Below.refl _ _).drew)
      have HZF := Lib.hid (HFZ44.out.grow HS46.out.marks (Below.refl _ _).drew)
      clear HV45 HV43 HFZ44
      refine wp_region_noPanic ?_
      refine wp_region_held_drew (S := (fun w' => Below W.heap.size W w' ∧ w'.cell? ⟨w21.heap.size, 0, none⟩ = some (.int .i64 2) ∧ w'.cell? ⟨w21.heap.size, 1, none⟩ = some (.int .i64 1) ∧ w'.cell? ⟨w21.heap.size, 2, none⟩ = some (.int .i64 1) ∧ w'.cell? ⟨w21.heap.size, 3, none⟩ = some (.int .i64 d.length) ∧ w'.cell? ⟨w21.heap.size, 4, none⟩ = some (.int .u64 u) ∧ w'.cell? ⟨w21.heap.size, 5, none⟩ = some (.bool true) ∧ w'.cell? ⟨w35.heap.size, 0, none⟩ = some (.int .i64 0) ∧ w'.cell? ⟨w40.heap.size, 2, none⟩ = some (.slice da40 d.length dc40) ∧ (convert 22 9 (.slice da40 d.length dc40)).run Tryz.prog w' = .ok (.string (strOf d)) w' ∧ (convert 22 9 (.slice da d.length dc)).run Tryz.prog w' = .ok (.string (strOf d)) w')) (by kernel_rfl) ?_ (fun hS => ?_)
      · exact HSA.out _ _ _ _ HZS.out HZR.out HZB.out HZF.out
      refine tkH 0 (hS := hS) (h := ?_)
      try simp only [Act.put, List.setIfInBounds_toArray, List.set_cons_zero, List.set_cons_succ]
      refine tkH 1 (hS := hS) (h := ?_)
      try simp only [Act.put, List.setIfInBounds_toArray, List.set_cons_zero, List.set_cons_succ]
      refine tkH 4 (hS := hS) (h := ?_)
      try simp only [Act.put, List.setIfInBounds_toArray, List.set_cons_zero, List.set_cons_succ]
      have HC91 := Lib.hid (st_doE0 HZS.out (by omega) (by omega) (pO 12 [47, 122] []) (pO_ok 12 _ _ (by omega) (by simp) (by simp)) m HM.out (opA 12 ⟨#[47, 122]⟩ ⟨#[]⟩ 0 0 0 0 0 none 0 0) rfl rfl (rn_stat3 d u))
      refine wpAnyH_ready (rs := [2]) (by kernel_rfl) (by simp) ?_
      refine AllReadyH.cons (o := ?o1) ?ho1 (fun K hK => ?_) AllReadyH.nil
      case ho1 => simp only [List.getElem?_toArray, List.getElem?_cons_succ, List.getElem?_cons_zero]; rfl
      go_simp
      (with_reducible refine HC91.out.mono ?_)
      rintro e u1 ⟨o91, ⟨y91, rfl, za1, zl1, zd1, ze1, rfl, -, -, -, -⟩, hs91, hS91⟩
      have HY1S := Lib.hid hS91
      have HY1R := Lib.hid (HZR.out.five (by omega) hs91)
      have HY1B := Lib.hid (HZB.out.five (by omega) hs91)
      have HY1F := Lib.hid (HZF.out.five (by omega) hs91)
      clear hs91 hS91 HC91 HZS HZR HZB HZF
      unfold reC
      try unfold rnNode
      go_wp2_with fail
      refine hK.out _ _ (HSA.out _ _ _ _ HY1S.out HY1R.out HY1B.out HY1F.out) (fun hS => ?_)
      clear hK K
      try simp only [Act.put, List.setIfInBounds_toArray, List.set_cons_zero, List.set_cons_succ]
      refine tkH 3 (hS := hS) (h := ?_)
      try simp only [Act.put, List.setIfInBounds_toArray, List.set_cons_zero, List.set_cons_succ]
      refine tkH 5 (hS := hS) (h := ?_)
      try simp only [Act.put, List.setIfInBounds_toArray, List.set_cons_zero, List.set_cons_succ]
      refine tkH 6 (hS := hS) (h := ?_)
      try simp only [Act.put, List.setIfInBounds_toArray, List.set_cons_zero, List.set_cons_succ]
      refine tkH 7 (hS := hS) (h := ?_)
      try simp only [Act.put, List.setIfInBounds_toArray, List.set_cons_zero, List.set_cons_succ]
      refine tkH 8 (hS := hS) (h := ?_)
      try simp only [Act.put, List.setIfInBounds_toArray, List.set_cons_zero, List.set_cons_succ]
      refine tkH 9 (hS := hS) (h := ?_)
      try simp only [Act.put, List.setIfInBounds_toArray, List.set_cons_zero, List.set_cons_succ]
      refine tkH 10 (hS := hS) (h := ?_)
      try simp only [Act.put, List.setIfInBounds_toArray, List.set_cons_zero, List.set_cons_succ]
      refine tkH 11 (hS := hS) (h := ?_)
      try simp only [Act.put, List.setIfInBounds_toArray, List.set_cons_zero, List.set_cons_succ]
      refine tkH 12 (hS := hS) (h := ?_)
      try simp only [Act.put, List.setIfInBounds_toArray, List.set_cons_zero, List.set_cons_succ]
      refine tkH 13 (hS := hS) (h := ?_)
      try simp only [Act.put, List.setIfInBounds_toArray, List.set_cons_zero, List.set_cons_succ]
      refine tkH 14 (hS := hS) (h := ?_)
      try simp only [Act.put, List.setIfInBounds_toArray, List.set_cons_zero, List.set_cons_succ]
      refine tkH 15 (hS := hS) (h := ?_)
      try simp only [Act.put, List.setIfInBounds_toArray, List.set_cons_zero, List.set_cons_succ]
      refine tkH 16 (hS := hS) (h := ?_)
      try simp only [Act.put, List.setIfInBounds_toArray, List.set_cons_zero, List.set_cons_succ]
      refine tkH 17 (hS := hS) (h := ?_)
      try simp only [Act.put, List.setIfInBounds_toArray, List.set_cons_zero, List.set_cons_succ]
      refine tkH 18 (hS := hS) (h := ?_)
      try simp only [Act.put, List.setIfInBounds_toArray, List.set_cons_zero, List.set_cons_succ]
      refine tkH 19 (hS := hS) (h := ?_)
      try simp only [Act.put, List.setIfInBounds_toArray, List.set_cons_zero, List.set_cons_succ]
      refine tkH 20 (hS := hS) (h := ?_)
      try simp only [Act.put, List.setIfInBounds_toArray, List.set_cons_zero, List.set_cons_succ]
      refine tkH 21 (hS := hS) (h := ?_)
      try simp only [Act.put, List.setIfInBounds_toArray, List.set_cons_zero, List.set_cons_succ]
      have HC92 := Lib.hid (st_doE0 HY1S.out (by omega) (by omega) (pO 8 [47, 122] []) (pO_ok 8 _ _ (by omega) (by simp) (by simp)) m HM.out (opA 8 ⟨#[47, 122]⟩ ⟨#[]⟩ 0 0 0 0 0 none 0 0) rfl rfl (rn_unl d u (by omega)))
      refine wpAnyH_ready (rs := [22]) (by kernel_rfl) (by simp) ?_
      refine AllReadyH.cons (o := ?o2) ?ho2 (fun K hK => ?_) AllReadyH.nil
      case ho2 => simp only [List.getElem?_toArray, List.getElem?_cons_succ, List.getElem?_cons_zero]; rfl
      go_simp
      (with_reducible refine HC92.out.mono ?_)
      rintro e u2 ⟨o92, ⟨y92, rfl, za2, zl2, zd2, ze2, rfl, -, -, -, -⟩, hs92, hS92⟩
      have HY2S := Lib.hid hS92
      have HY2R := Lib.hid (HY1R.out.five (by omega) hs92)
      have HY2B := Lib.hid (HY1B.out.five (by omega) hs92)
      have HY2F := Lib.hid (HY1F.out.five (by omega) hs92)
      clear hs92 hS92 HC92 HY1S HY1R HY1B HY1F
      unfold reC
      try unfold noM
      go_wp2_with fail
      refine hK.out _ _ (HSA.out _ _ _ _ HY2S.out HY2R.out HY2B.out HY2F.out) (fun hS => ?_)
      clear hK K
      try simp only [Act.put, List.setIfInBounds_toArray, List.set_cons_zero, List.set_cons_succ]
      refine tkH 23 (hS := hS) (h := ?_)
      try simp only [Act.put, List.setIfInBounds_toArray, List.set_cons_zero, List.set_cons_succ]
      refine tkH 24 (hS := hS) (h := ?_)
      try simp only [Act.put, List.setIfInBounds_toArray, List.set_cons_zero, List.set_cons_succ]
      refine tkH 25 (hS := hS) (h := ?_)
      try simp only [Act.put, List.setIfInBounds_toArray, List.set_cons_zero, List.set_cons_succ]
      refine tkH 26 (hS := hS) (h := ?_)
      try simp only [Act.put, List.setIfInBounds_toArray, List.set_cons_zero, List.set_cons_succ]
      refine tkH 27 (hS := hS) (h := ?_)
      try simp only [Act.put, List.setIfInBounds_toArray, List.set_cons_zero, List.set_cons_succ]
      refine tkH 28 (hS := hS) (h := ?_)
      try simp only [Act.put, List.setIfInBounds_toArray, List.set_cons_zero, List.set_cons_succ]
      have HC93 := Lib.hid (st_doE0 HY2S.out (by omega) (by omega) (pO 9 [47, 101] []) (pO_ok 9 _ _ (by omega) (by simp) (by simp)) m HM.out (opA 9 ⟨#[47, 101]⟩ ⟨#[]⟩ 0 0 0 0 0 none 0 0) rfl rfl (rn_rmd2 d u))
      refine wpAnyH_ready (rs := [29]) (by kernel_rfl) (by simp) ?_
      refine AllReadyH.cons (o := ?o3) ?ho3 (fun K hK => ?_) AllReadyH.nil
      case ho3 => simp only [List.getElem?_toArray, List.getElem?_cons_succ, List.getElem?_cons_zero]; rfl
      go_simp
      (with_reducible refine HC93.out.mono ?_)
      rintro e u3 ⟨o93, ⟨y93, rfl, za3, zl3, zd3, ze3, rfl, -, -, -, -⟩, hs93, hS93⟩
      have HY3S := Lib.hid hS93
      have HY3R := Lib.hid (HY2R.out.five (by omega) hs93)
      have HY3B := Lib.hid (HY2B.out.five (by omega) hs93)
      have HY3F := Lib.hid (HY2F.out.five (by omega) hs93)
      clear hs93 hS93 HC93 HY2S HY2R HY2B HY2F
      unfold reC
      try unfold noM
      go_wp2_with fail
      refine hK.out _ _ (HSA.out _ _ _ _ HY3S.out HY3R.out HY3B.out HY3F.out) (fun hS => ?_)
      clear hK K
      try simp only [Act.put, List.setIfInBounds_toArray, List.set_cons_zero, List.set_cons_succ]
      refine tkH 30 (hS := hS) (h := ?_)
      try simp only [Act.put, List.setIfInBounds_toArray, List.set_cons_zero, List.set_cons_succ]
      refine tkH 31 (hS := hS) (h := ?_)
      try simp only [Act.put, List.setIfInBounds_toArray, List.set_cons_zero, List.set_cons_succ]
      refine tkH 32 (hS := hS) (h := ?_)
      try simp only [Act.put, List.setIfInBounds_toArray, List.set_cons_zero, List.set_cons_succ]
      refine tkH 33 (hS := hS) (h := ?_)
      try simp only [Act.put, List.setIfInBounds_toArray, List.set_cons_zero, List.set_cons_succ]
      have hbW := HY3S.out.below
      have hmr : u3.cell? ⟨0, 0, none⟩ = some (.int .i64 m) := (hbW.cell (p := ⟨0, 0, none⟩) (World.block_lt_of_cell? W _ HM.out)).trans HM.out
      have HK := Lib.hid (known14_any u3 m hmr)
      clear hmr
      refine wpAnyH_ready (rs := [34]) (by kernel_rfl) (by simp) ?_
      refine AllReadyH.cons (o := ?o4) ?ho4 (fun K hK => ?_) AllReadyH.nil
      case ho4 => simp only [List.getElem?_toArray, List.getElem?_cons_succ, List.getElem?_cons_zero]; rfl
      go_simp
      (with_reducible refine HK.out.mono ?_)
      rintro e u4 ⟨rfl, hb4⟩
      have HB4 := Lib.hid (hbW.trans (hb4.mono hbW.size))
      have HZZ := Lib.hid (HSA.out _ _ _ _ (HY3S.out.grow hb4) (HY3R.out.grow HY3S.out.marks hb4) (HY3B.out.grow HY3S.out.marks hb4) (HY3F.out.grow HY3S.out.marks hb4))
      clear hb4
      go_wp2_with fail
      refine hK.out _ _ (HZZ.out) (fun hS => ?_)
      clear hK K
      try simp only [Act.put, List.setIfInBounds_toArray, List.set_cons_zero, List.set_cons_succ]
      refine tkH 35 (hS := hS) (h := ?_)
      try simp only [Act.put, List.setIfInBounds_toArray, List.set_cons_zero, List.set_cons_succ]
      refine tkH 36 (hS := hS) (h := ?_)
      try simp only [Act.put, List.setIfInBounds_toArray, List.set_cons_zero, List.set_cons_succ]
      refine wpAnyH_done (by kernel_rfl) ?_ _
      refine NoPanic.normal ?_
      go_wp2_with fail
      go_ret
      exact ⟨rfl, HB4.out⟩
end Go.Proofs.YtpgklnhkfgbpgaaGreatDoor.stateRenames
