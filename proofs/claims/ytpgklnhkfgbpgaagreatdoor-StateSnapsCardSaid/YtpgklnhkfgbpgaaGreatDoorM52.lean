/- StateSnaps: the walk. -/
import Derived.Test.YtpgklnhkfgbpgaaGreatDoorM45
import Derived.Test.YtpgklnhkfgbpgaaGreatDoorM48
import Derived.Test.YtpgklnhkfgbpgaaGreatDoorM50
import Derived.Test.YtpgklnhkfgbpgaaGreatDoorM49
namespace Go.Proofs.YtpgklnhkfgbpgaaGreatDoor.stateSnaps
open Go.ChangeShapes Go.WideShapes Go.ChangeAt Go.RowKit
set_option linter.unusedVariables false
set_option linter.unusedSimpArgs false

def snS (d : List UInt8) (u n : Int) : Nat → StM
  | 0 => newSt
  | 1 => stA [] false 0 (some ⟨true, 1, []⟩)
  | 2 => stA d false 0 (some ⟨true, 1, []⟩)
  | 3 => stA d true u none
  | 4 => stB (oneT d true u) (snB d u) 0 none
  | _ => stB (oneT d true u) (snB d u) n none
def snRow (da : Option Addr) (dc : Nat) (d : List UInt8) (u n : Int) : Obj := (.cells #[.int .i64 1, .string ⟨#[47, 97]⟩, .string ⟨#[]⟩, .int .i64 0, .int .i64 0, .int .i64 0, .int .u64 0, .int .i64 0, .slice none 0 0, .int .i64 5, .string ⟨#[]⟩, .string ⟨#[]⟩, .int .i64 0, .int .i64 0, .int .i64 0, .int .u64 0, .int .i64 0, .slice da d.length dc, .int .i64 6, .string ⟨#[]⟩, .string ⟨#[]⟩, .int .i64 0, .int .i64 0, .int .i64 0, .int .u64 u, .int .i64 0, .slice none 0 0, .int .i64 14, .string ⟨#[]⟩, .string ⟨#[]⟩, .int .i64 0, .int .i64 0, .int .i64 0, .int .u64 0, .int .i64 0, .slice none 0 0, .int .i64 16, .string ⟨#[]⟩, .string ⟨#[]⟩, .int .i64 0, .int .i64 0, .int .i64 0, .int .u64 n, .int .i64 0, .slice none 0 0] 36 (0, 0))
def SRel (W : World) (da : Option Addr) (dc : Nat) (d : List UInt8) (u n : Int) (p g : Nat) (iv : Value) (wr : World) : Prop := ∃ (k : Nat) (o : Mark), iv = .int .i64 k ∧ k ≤ 5 ∧ StW W o 1 wr p (1 + k) (snS d u n k) ∧ Froz o wr g (snRow da dc d u n)
set_option maxRecDepth 100000 in
set_option maxHeartbeats 64000000 in
theorem walk {H : Type} {enc : TypeId × Value → H} (W : World) (base : Nat) (hsh : W.ShapedOpen Tryz.prog) (v0 : Value) (d0 : DataW H) (p0 : List MemPlace) (o0 : Value.okWide Tryz.prog W .any base 22 v0) (h0 : DataW.Trod enc Tryz.prog W 0 (fun _ => true) true 22 v0 d0 p0) (l0 : ∀ x ∈ p0, x.block < W.heap.size) (a1 : Int) (w1 : (Lit.int .u64 a1).wf = true) (a2 : Int) (w2 : (Lit.int .u64 a2).wf = true) (hsz : (DataW.weightsEach Tryz.prog [22, 29, 29] ([d0, .lit (.int .u64 a1), .lit (.int .u64 a2)] : List (DataW H))).all (· ≤ reachBytes) = true) :
    Calls Tryz.prog 5 #[v0, .int .u64 a1, .int .u64 a2] W (Fine W) := by
  obtain ⟨m, hm, -⟩ := maxLen_cell hsh
  obtain ⟨da, dn, dc, bs, rfl, hdc, hda⟩ : ∃ a len cap bs, v0 = .slice a len cap ∧ len ≤ cap ∧ RowAt (Old W) W a len ((bs : List UInt8).map bv) := by
    obtain ⟨a0, len, cap, rfl⟩ := okWide_slice Tryz.underlying22 o0
    obtain ⟨fuel, hf⟩ := h0
    exact open_bytesT hf l0
  have HM := Lib.hid hm
  have b1 := (u64_of_wfO w1).1
  have b2 := (u64_of_wfO w2).1
  obtain ⟨u, hu⟩ : ∃ u, u = a1 % 50 := ⟨_, rfl⟩
  obtain ⟨n, hn⟩ : ∃ n, n = a2 % 60 := ⟨_, rfl⟩
  have hu1 : a1.tmod 50 = u := by rw [hu]; exact Int.tmod_eq_emod_of_nonneg b1
  have hn1 : a2.tmod 60 = n := by rw [hn]; exact Int.tmod_eq_emod_of_nonneg b2
  have bu : 0 ≤ u ∧ u < 50 := by omega
  have bn : 0 ≤ n ∧ n < 60 := by omega
  obtain ⟨d, hd⟩ : ∃ d, d = bs.take 200 := ⟨_, rfl⟩
  have hdl : min dn 200 = d.length := by rw [hd, List.length_take, show bs.length = dn by simpa using hda.length, Nat.min_comm]
  have HDA : Hid (RowAt (Old W) W da d.length (d.map bv)) := by
    have := hda.take 200
    rw [hdl, ← List.map_take, ← hd] at this
    exact this
  have hd5 : d.length ≤ 200 := by omega
  have HCUT : Hid (∀ w : World, Calls Tryz.prog 13 #[.slice da dn dc, .int .i64 200] w fun e w' => e = .returned (.slice da d.length dc) ∧ w = w') := fun w => by
    have := cut_any da dn dc 200 hdc (by omega) hda.small w
    rw [hdl] at this
    exact this
  have hu2 := hu.symm
  have hn2 := hn.symm
  clear hm o0 h0 l0 hsz hsh w1 w2 hda hdl hd hdc hu hn
  have hfl := field_er
  go_enter Tryz.func5, Tryz.ntmps5
  go_wp2_with fail
  (with_reducible refine (st_new (i := 1) (marks0 W) (by omega)).mono ?_)
  rintro e w1 ⟨ps, o1, rfl, hs1, hS1⟩
  have HS1 := Lib.hid hS1
  clear hs1 hS1
  go_wp2_with fail
  (with_reducible refine (HCUT.out _).mono ?_)
  rintro e _ ⟨rfl, rfl⟩
  have HF := Lib.hid (Froz.new HS1.out.marks (snRow da dc d u n))
  have HSR := Lib.hid (HS1.out.grow (wall w1 (snRow da dc d u n)))
  unfold snRow at HF HSR
  clear HS1 HCUT
  go_wp2_with fail
  go_loopw [9, 36] (fun _ iv wr => SRel W da dc d u n ps w1.heap.size iv wr) (fun _ iv _ => 5 - (intOf iv).toNat)
  case atStart => exact ⟨0, _, rfl, by omega, HSR.out.mono (by omega), HF.out⟩
  case round =>
    obtain ⟨k, o2, rfl, hk, hS, hF⟩ := hrel
    have HS := Lib.hid hS
    have HF2 := Lib.hid hF
    clear hS HSR HF
    have hat := hF.at_
    unfold snRow at hat
    clear hF
    rcases (show k = 0 ∨ k = 1 ∨ k = 2 ∨ k = 3 ∨ k = 4 ∨ k = 5 by omega) with rfl | rfl | rfl | rfl | rfl | rfl
    · have HSK : Hid (StW W o2 1 wr ps (1 + 0) (snS d u n 0)) := HS
      have d0 : wr.cell? ⟨w1.heap.size, 0, none⟩ = some (.int .i64 1) := by simp [World.cell?, hat]
      have d1 : wr.cell? ⟨w1.heap.size, 1, none⟩ = some (.string ⟨#[47, 97]⟩) := by simp [World.cell?, hat]
      have d2 : wr.cell? ⟨w1.heap.size, 2, none⟩ = some (.string ⟨#[]⟩) := by simp [World.cell?, hat]
      have d3 : wr.cell? ⟨w1.heap.size, 3, none⟩ = some (.int .i64 0) := by simp [World.cell?, hat]
      have d4 : wr.cell? ⟨w1.heap.size, 4, none⟩ = some (.int .i64 0) := by simp [World.cell?, hat]
      have d5 : wr.cell? ⟨w1.heap.size, 5, none⟩ = some (.int .i64 0) := by simp [World.cell?, hat]
      have d6 : wr.cell? ⟨w1.heap.size, 6, none⟩ = some (.int .u64 0) := by simp [World.cell?, hat]
      have d7 : wr.cell? ⟨w1.heap.size, 7, none⟩ = some (.int .i64 0) := by simp [World.cell?, hat]
      have d8 : wr.cell? ⟨w1.heap.size, 8, none⟩ = some (.slice none 0 0) := by simp [World.cell?, hat]
      clear hat
      go_wp2_with fail
      have HS3 := Lib.hid (HSK.out.grow (wall wr (.cells #[.int .i64 1, .string ⟨#[47, 97]⟩, .string ⟨#[]⟩, .int .i64 0, .int .i64 0, .int .i64 0, .int .u64 0, .int .i64 0, .slice none 0 0] 36)))
      have HF3 := Lib.hid (HF2.out.grow HSK.out.marks (wall wr (.cells #[.int .i64 1, .string ⟨#[47, 97]⟩, .string ⟨#[]⟩, .int .i64 0, .int .i64 0, .int .i64 0, .int .u64 0, .int .i64 0, .slice none 0 0] 36)))
      clear d0 d1 d2 d3 d4 d5 d6 d7 d8 HS HF2
      have HC := Lib.hid (st_doE0 HS3.out (by omega) (by omega) k14a (k14_ok _ (by simp)) m HM.out (opA 1 ⟨#[47, 97]⟩ ⟨#[]⟩ 0 0 0 0 0 none 0 0) rfl rfl do_create)
      (with_reducible refine HC.out.mono ?_)
      rintro e w5 ⟨o5, ⟨y5, rfl, da5, la5, dc5, lc5, rfl, -, -, -, -⟩, hs5, hS5⟩
      have HS5 := Lib.hid hS5
      have HF5 := Lib.hid (HF3.out.five (by omega) hs5)
      clear hs5 hS5 HC
      unfold reC
      try unfold noM
      go_wp2_with fail
      go_roundw
      case rel => exact ⟨1, o5, by go_num, by omega, HS5.out.mono (by omega), HF5.out⟩
      case measure => simp [intOf]
    · have HSK : Hid (StW W o2 1 wr ps (1 + 1) (snS d u n 1)) := HS
      have d0 : wr.cell? ⟨w1.heap.size, 9, none⟩ = some (.int .i64 5) := by simp [World.cell?, hat]
      have d1 : wr.cell? ⟨w1.heap.size, 10, none⟩ = some (.string ⟨#[]⟩) := by simp [World.cell?, hat]
      have d2 : wr.cell? ⟨w1.heap.size, 11, none⟩ = some (.string ⟨#[]⟩) := by simp [World.cell?, hat]
      have d3 : wr.cell? ⟨w1.heap.size, 12, none⟩ = some (.int .i64 0) := by simp [World.cell?, hat]
      have d4 : wr.cell? ⟨w1.heap.size, 13, none⟩ = some (.int .i64 0) := by simp [World.cell?, hat]
      have d5 : wr.cell? ⟨w1.heap.size, 14, none⟩ = some (.int .i64 0) := by simp [World.cell?, hat]
      have d6 : wr.cell? ⟨w1.heap.size, 15, none⟩ = some (.int .u64 0) := by simp [World.cell?, hat]
      have d7 : wr.cell? ⟨w1.heap.size, 16, none⟩ = some (.int .i64 0) := by simp [World.cell?, hat]
      have d8 : wr.cell? ⟨w1.heap.size, 17, none⟩ = some (.slice da d.length dc) := by simp [World.cell?, hat]
      clear hat
      go_wp2_with fail
      have HS3 := Lib.hid (HSK.out.grow (wall wr (.cells #[.int .i64 5, .string ⟨#[]⟩, .string ⟨#[]⟩, .int .i64 0, .int .i64 0, .int .i64 0, .int .u64 0, .int .i64 0, .slice da d.length dc] 36)))
      have HF3 := Lib.hid (HF2.out.grow HSK.out.marks (wall wr (.cells #[.int .i64 5, .string ⟨#[]⟩, .string ⟨#[]⟩, .int .i64 0, .int .i64 0, .int .i64 0, .int .u64 0, .int .i64 0, .slice da d.length dc] 36)))
      clear d0 d1 d2 d3 d4 d5 d6 d7 d8 HS HF2
      have HC := Lib.hid (st_doE HS3.out (by omega) (by omega) (wrO d) (wrO_ok d (by omega)) da dc (HDA.out.below HS3.out.below (Nat.le_refl _)) m HM.out (opA 5 ⟨#[]⟩ ⟨#[]⟩ 0 0 0 0 0 da d.length dc) rfl (do_write d (by omega)))
      (with_reducible refine HC.out.mono ?_)
      rintro e w5 ⟨o5, ⟨y5, rfl, da5, la5, dc5, lc5, rfl, -, -, -, -⟩, hs5, hS5⟩
      have HS5 := Lib.hid hS5
      have HF5 := Lib.hid (HF3.out.five (by omega) hs5)
      clear hs5 hS5 HC
      unfold reC
      try unfold noM
      go_wp2_with fail
      go_roundw
      case rel => exact ⟨2, o5, by go_num, by omega, HS5.out.mono (by omega), HF5.out⟩
      case measure => simp [intOf]
    · have HSK : Hid (StW W o2 1 wr ps (1 + 2) (snS d u n 2)) := HS
      have d0 : wr.cell? ⟨w1.heap.size, 18, none⟩ = some (.int .i64 6) := by simp [World.cell?, hat]
      have d1 : wr.cell? ⟨w1.heap.size, 19, none⟩ = some (.string ⟨#[]⟩) := by simp [World.cell?, hat]
      have d2 : wr.cell? ⟨w1.heap.size, 20, none⟩ = some (.string ⟨#[]⟩) := by simp [World.cell?, hat]
      have d3 : wr.cell? ⟨w1.heap.size, 21, none⟩ = some (.int .i64 0) := by simp [World.cell?, hat]
      have d4 : wr.cell? ⟨w1.heap.size, 22, none⟩ = some (.int .i64 0) := by simp [World.cell?, hat]
      have d5 : wr.cell? ⟨w1.heap.size, 23, none⟩ = some (.int .i64 0) := by simp [World.cell?, hat]
      have d6 : wr.cell? ⟨w1.heap.size, 24, none⟩ = some (.int .u64 u) := by simp [World.cell?, hat]
      have d7 : wr.cell? ⟨w1.heap.size, 25, none⟩ = some (.int .i64 0) := by simp [World.cell?, hat]
      have d8 : wr.cell? ⟨w1.heap.size, 26, none⟩ = some (.slice none 0 0) := by simp [World.cell?, hat]
      clear hat
      go_wp2_with fail
      have HS3 := Lib.hid (HSK.out.grow (wall wr (.cells #[.int .i64 6, .string ⟨#[]⟩, .string ⟨#[]⟩, .int .i64 0, .int .i64 0, .int .i64 0, .int .u64 u, .int .i64 0, .slice none 0 0] 36)))
      have HF3 := Lib.hid (HF2.out.grow HSK.out.marks (wall wr (.cells #[.int .i64 6, .string ⟨#[]⟩, .string ⟨#[]⟩, .int .i64 0, .int .i64 0, .int .i64 0, .int .u64 u, .int .i64 0, .slice none 0 0] 36)))
      clear d0 d1 d2 d3 d4 d5 d6 d7 d8 HS HF2
      have HC := Lib.hid (st_doE0 HS3.out (by omega) (by omega) (clO u) (clO_ok u (by omega)) m HM.out (opA 6 ⟨#[]⟩ ⟨#[]⟩ 0 0 0 u 0 none 0 0) rfl rfl (do_close d u (by omega)))
      (with_reducible refine HC.out.mono ?_)
      rintro e w5 ⟨o5, ⟨y5, rfl, da5, la5, dc5, lc5, rfl, -, -, -, -⟩, hs5, hS5⟩
      have HS5 := Lib.hid hS5
      have HF5 := Lib.hid (HF3.out.five (by omega) hs5)
      clear hs5 hS5 HC
      unfold reC
      try unfold noM
      go_wp2_with fail
      go_roundw
      case rel => exact ⟨3, o5, by go_num, by omega, HS5.out.mono (by omega), HF5.out⟩
      case measure => simp [intOf]
    · have HSK : Hid (StW W o2 1 wr ps (1 + 3) (snS d u n 3)) := HS
      have d0 : wr.cell? ⟨w1.heap.size, 27, none⟩ = some (.int .i64 14) := by simp [World.cell?, hat]
      have d1 : wr.cell? ⟨w1.heap.size, 28, none⟩ = some (.string ⟨#[]⟩) := by simp [World.cell?, hat]
      have d2 : wr.cell? ⟨w1.heap.size, 29, none⟩ = some (.string ⟨#[]⟩) := by simp [World.cell?, hat]
      have d3 : wr.cell? ⟨w1.heap.size, 30, none⟩ = some (.int .i64 0) := by simp [World.cell?, hat]
      have d4 : wr.cell? ⟨w1.heap.size, 31, none⟩ = some (.int .i64 0) := by simp [World.cell?, hat]
      have d5 : wr.cell? ⟨w1.heap.size, 32, none⟩ = some (.int .i64 0) := by simp [World.cell?, hat]
      have d6 : wr.cell? ⟨w1.heap.size, 33, none⟩ = some (.int .u64 0) := by simp [World.cell?, hat]
      have d7 : wr.cell? ⟨w1.heap.size, 34, none⟩ = some (.int .i64 0) := by simp [World.cell?, hat]
      have d8 : wr.cell? ⟨w1.heap.size, 35, none⟩ = some (.slice none 0 0) := by simp [World.cell?, hat]
      clear hat
      go_wp2_with fail
      have HS3 := Lib.hid (HSK.out.grow (wall wr (.cells #[.int .i64 14, .string ⟨#[]⟩, .string ⟨#[]⟩, .int .i64 0, .int .i64 0, .int .i64 0, .int .u64 0, .int .i64 0, .slice none 0 0] 36)))
      have HF3 := Lib.hid (HF2.out.grow HSK.out.marks (wall wr (.cells #[.int .i64 14, .string ⟨#[]⟩, .string ⟨#[]⟩, .int .i64 0, .int .i64 0, .int .i64 0, .int .u64 0, .int .i64 0, .slice none 0 0] 36)))
      clear d0 d1 d2 d3 d4 d5 d6 d7 d8 HS HF2
      have HC := Lib.hid (st_doE0 HS3.out (by omega) (by omega) tkO tkO_ok m HM.out (opA 14 ⟨#[]⟩ ⟨#[]⟩ 0 0 0 0 0 none 0 0) rfl rfl (do_take d u))
      (with_reducible refine HC.out.mono ?_)
      rintro e w5 ⟨o5, ⟨y5, rfl, da5, la5, dc5, lc5, rfl, -, -, -, -⟩, hs5, hS5⟩
      have HS5 := Lib.hid hS5
      have HF5 := Lib.hid (HF3.out.five (by omega) hs5)
      clear hs5 hS5 HC
      unfold reC
      try unfold noM
      go_wp2_with fail
      go_roundw
      case rel => exact ⟨4, o5, by go_num, by omega, HS5.out.mono (by omega), HF5.out⟩
      case measure => simp [intOf]
    · have HSK : Hid (StW W o2 1 wr ps (1 + 4) (snS d u n 4)) := HS
      have d0 : wr.cell? ⟨w1.heap.size, 36, none⟩ = some (.int .i64 16) := by simp [World.cell?, hat]
      have d1 : wr.cell? ⟨w1.heap.size, 37, none⟩ = some (.string ⟨#[]⟩) := by simp [World.cell?, hat]
      have d2 : wr.cell? ⟨w1.heap.size, 38, none⟩ = some (.string ⟨#[]⟩) := by simp [World.cell?, hat]
      have d3 : wr.cell? ⟨w1.heap.size, 39, none⟩ = some (.int .i64 0) := by simp [World.cell?, hat]
      have d4 : wr.cell? ⟨w1.heap.size, 40, none⟩ = some (.int .i64 0) := by simp [World.cell?, hat]
      have d5 : wr.cell? ⟨w1.heap.size, 41, none⟩ = some (.int .i64 0) := by simp [World.cell?, hat]
      have d6 : wr.cell? ⟨w1.heap.size, 42, none⟩ = some (.int .u64 n) := by simp [World.cell?, hat]
      have d7 : wr.cell? ⟨w1.heap.size, 43, none⟩ = some (.int .i64 0) := by simp [World.cell?, hat]
      have d8 : wr.cell? ⟨w1.heap.size, 44, none⟩ = some (.slice none 0 0) := by simp [World.cell?, hat]
      clear hat
      go_wp2_with fail
      have HS3 := Lib.hid (HSK.out.grow (wall wr (.cells #[.int .i64 16, .string ⟨#[]⟩, .string ⟨#[]⟩, .int .i64 0, .int .i64 0, .int .i64 0, .int .u64 n, .int .i64 0, .slice none 0 0] 36)))
      have HF3 := Lib.hid (HF2.out.grow HSK.out.marks (wall wr (.cells #[.int .i64 16, .string ⟨#[]⟩, .string ⟨#[]⟩, .int .i64 0, .int .i64 0, .int .i64 0, .int .u64 n, .int .i64 0, .slice none 0 0] 36)))
      clear d0 d1 d2 d3 d4 d5 d6 d7 d8 HS HF2
      have HC := Lib.hid (st_doE0 HS3.out (by omega) (by omega) (tiO n) (tiO_ok n (by omega)) m HM.out (opA 16 ⟨#[]⟩ ⟨#[]⟩ 0 0 0 n 0 none 0 0) rfl rfl (do_tick (oneT d true u) (snB d u) none n (by omega) (by omega)))
      (with_reducible refine HC.out.mono ?_)
      rintro e w5 ⟨o5, ⟨y5, rfl, da5, la5, dc5, lc5, rfl, -, -, -, -⟩, hs5, hS5⟩
      have HS5 := Lib.hid hS5
      have HF5 := Lib.hid (HF3.out.five (by omega) hs5)
      clear hs5 hS5 HC
      unfold reC
      try unfold noM
      go_wp2_with fail
      go_roundw
      case rel => exact ⟨5, o5, by go_num, by omega, HS5.out.mono (by omega), HF5.out⟩
      case measure => simp [intOf]
    · have HSK : Hid (StW W o2 1 wr ps 6 (stB (oneT d true u) (snB d u) n none)) := HS
      clear hat HS HF2
      by_cases hkp : n < u
      · have hkt := hkp
        have hdk : decide (n < u) = true := by simpa using hkp
        have HKP := Lib.hid hkp
        have HC21 := Lib.hid (st_doE0 HSK.out (by omega) (by omega) unO unO_ok m HM.out (opA 8 ⟨#[47, 97]⟩ ⟨#[]⟩ 0 0 0 0 0 none 0 0) rfl rfl (do_unlink_kept d u n (snB d u) (by have := HKP.out; omega)))
        go_wp2_with fail
        (with_reducible refine HC21.out.mono ?_)
        rintro e w21 ⟨o21, ⟨y21, rfl, da21, la21, dc21, lc21, rfl, p1, p2, p3, p4⟩, hs21, hS21⟩
        have HS21 := Lib.hid hS21
        have HR21 := Lib.hid (And.intro p1 (And.intro p2 (And.intro p3 p4)))
        clear hs21 hS21 p1 p2 p3 p4 HC21 HSK
        unfold reC
        try unfold noM
        have HC22 := Lib.hid (st_doE0 HS21.out (by omega) (by omega) (opS 1) (opS_ok 1 (by omega)) m HM.out (opA 3 ⟨#[47, 97]⟩ ⟨#[]⟩ 0 0 0 0 1 none 0 0) rfl rfl (do_openS (oneT d true u) d u n))
        go_wp2_with fail
        (with_reducible refine HC22.out.mono ?_)
        rintro e w22 ⟨o22, ⟨y22, rfl, da22, la22, dc22, lc22, rfl, p1, p2, p3, p4⟩, hs22, hS22⟩
        have HS22 := Lib.hid hS22
        have HR22 := Lib.hid (And.intro p1 (And.intro p2 (And.intro p3 p4)))
        clear hs22 hS22 p1 p2 p3 p4 HC22 HS21
        go_wp2_with (refine wpList_store_rep (by rfl) 33 _ _ (by rfl) _ (reC ⟨0, 0, [], [], none⟩ da22 la22 dc22 lc22) (by rfl) (by rfl) _ (MapKept.heap_alloc _ _).1 repSize rfl (reC_one _ _ _ _ _) ?_; intro w23 hs23; have HW23 := Lib.hid hs23; clear hs23; obtain ⟨hv23, hb23⟩ := rep_var HS22.out.marks HR22.out.1 HR22.out.2.1 HR22.out.2.2.1 HR22.out.2.2.2 HW23.out; have HV23 := Lib.hid hv23; have HS24 := Lib.hid (HS22.out.grow hb23); clear HS22; clear hv23 hb23 HW23 HR22; have c1 := HV23.out.n; dsimp only at c1)
        have HC25 := Lib.hid (st_doE0 HS24.out (by omega) (by omega) (rdO 0 4096) (rdO_ok 0 4096 (by omega) (by omega)) m HM.out (opA 4 ⟨#[]⟩ ⟨#[]⟩ 0 0 4096 0 0 none 0 0) rfl rfl (do_readall (d := d) (id := 0) rfl (by omega)))
        (with_reducible refine HC25.out.mono ?_)
        rintro e w25 ⟨o25, ⟨y25, rfl, da25, la25, dc25, lc25, rfl, p1, p2, p3, p4⟩, hs25, hS25⟩
        have HS25 := Lib.hid hS25
        have HR25 := Lib.hid (And.intro p1 (And.intro p2 (And.intro p3 p4)))
        have HV26 := Lib.hid (HV23.out.five (by omega) hs25)
        clear HV23
        clear hs25 hS25 p1 p2 p3 p4 HC25 HS24
        go_wp2_with (refine wpList_store_rep (by rfl) 33 _ _ (by rfl) _ (reC ⟨0, d.length, d, [], none⟩ da25 la25 dc25 lc25) (by rfl) (by rfl) _ (MapKept.heap_alloc _ _).1 repSize rfl (reC_one _ _ _ _ _) ?_; intro w27 hs27; have HW27 := Lib.hid hs27; clear hs27; obtain ⟨hv27, hb27⟩ := rep_var HS25.out.marks HR25.out.1 HR25.out.2.1 HR25.out.2.2.1 HR25.out.2.2.2 HW27.out; have HV27 := Lib.hid hv27; have HV28 := Lib.hid (HV26.out.grow HS25.out.marks hb27); clear HV26; have HS29 := Lib.hid (HS25.out.grow hb27); clear HS25; clear hv27 hb27 HW27 HR25)
        clear c1
        have HC30 := Lib.hid (st_doE0 HS29.out (by omega) (by omega) (fgO 1) (fgO_ok 1 (by omega)) m HM.out (opA 15 ⟨#[]⟩ ⟨#[]⟩ 0 0 0 0 1 none 0 0) rfl rfl (do_forget_kept (oneT d true u) d u n (some ⟨false, 0, d⟩) (by have := HKP.out; omega)))
        go_wp2_with fail
        (with_reducible refine HC30.out.mono ?_)
        rintro e w30 ⟨o30, ⟨y30, rfl, da30, la30, dc30, lc30, rfl, p1, p2, p3, p4⟩, hs30, hS30⟩
        have HS30 := Lib.hid hS30
        have HR30 := Lib.hid (And.intro p1 (And.intro p2 (And.intro p3 p4)))
        have HV31 := Lib.hid (HV28.out.five (by omega) hs30)
        clear HV28
        have HV32 := Lib.hid (HV27.out.five (by omega) hs30)
        clear HV27
        clear hs30 hS30 p1 p2 p3 p4 HC30 HS29
        unfold reC
        try unfold noM
        have c1 := HV31.out.n
        dsimp only at c1
        have HC33 := Lib.hid (st_doE0 HS30.out (by omega) (by omega) (rdO 0 4096) (rdO_ok 0 4096 (by omega) (by omega)) m HM.out (opA 4 ⟨#[]⟩ ⟨#[]⟩ 0 0 4096 0 0 none 0 0) rfl rfl (do_readall (d := d) (id := 0) rfl (by omega)))
        go_wp2_with fail
        (with_reducible refine HC33.out.mono ?_)
        rintro e w33 ⟨o33, ⟨y33, rfl, da33, la33, dc33, lc33, rfl, p1, p2, p3, p4⟩, hs33, hS33⟩
        have HS33 := Lib.hid hS33
        have HR33 := Lib.hid (And.intro p1 (And.intro p2 (And.intro p3 p4)))
        have HV34 := Lib.hid (HV31.out.five (by omega) hs33)
        clear HV31
        have HV35 := Lib.hid (HV32.out.five (by omega) hs33)
        clear HV32
        clear hs33 hS33 p1 p2 p3 p4 HC33 HS30
        go_wp2_with (refine wpList_store_rep (by rfl) 33 _ _ (by rfl) _ (reC ⟨0, d.length, d, [], none⟩ da33 la33 dc33 lc33) (by rfl) (by rfl) _ (MapKept.heap_alloc _ _).1 repSize rfl (reC_one _ _ _ _ _) ?_; intro w36 hs36; have HW36 := Lib.hid hs36; clear hs36; obtain ⟨hv36, hb36⟩ := rep_var HS33.out.marks HR33.out.1 HR33.out.2.1 HR33.out.2.2.1 HR33.out.2.2.2 HW36.out; have HV36 := Lib.hid hv36; have HV37 := Lib.hid (HV34.out.grow HS33.out.marks hb36); clear HV34; have HV38 := Lib.hid (HV35.out.grow HS33.out.marks hb36); clear HV35; have HS39 := Lib.hid (HS33.out.grow hb36); clear HS33; clear hv36 hb36 HW36 HR33)
        clear c1
        have HC40 := Lib.hid (st_doE0 HS39.out (by omega) (by omega) (stO 1) (stO_ok 1 (by omega)) m HM.out (opA 12 ⟨#[47, 97]⟩ ⟨#[]⟩ 0 0 0 0 1 none 0 0) rfl rfl (do_stat (oneT d true u) d u n (some ⟨false, 0, d⟩)))
        go_wp2_with fail
        (with_reducible refine HC40.out.mono ?_)
        rintro e w40 ⟨o40, ⟨y40, rfl, da40, la40, dc40, lc40, rfl, p1, p2, p3, p4⟩, hs40, hS40⟩
        have HS40 := Lib.hid hS40
        have HR40 := Lib.hid (And.intro p1 (And.intro p2 (And.intro p3 p4)))
        have HV41 := Lib.hid (HV37.out.five (by omega) hs40)
        clear HV37
        have HV42 := Lib.hid (HV38.out.five (by omega) hs40)
        clear HV38
        have HV43 := Lib.hid (HV36.out.five (by omega) hs40)
        clear HV36
        clear hs40 hS40 p1 p2 p3 p4 HC40 HS39
        unfold reC
        try unfold noM
        have x1 := HV41.out.er
        have x2 := HV42.out.dat
        have x3 := conv_row (c := dc25) HV42.out.data
        have x4 := HV43.out.dat
        have x5 := conv_row (c := dc33) HV43.out.data
        have x6 := conv_row (c := dc) (HDA.out.below HS40.out.below (Nat.le_refl _))
        dsimp only at x1 x2 x3 x4 x5
        have hbW := HS40.out.below
        have hmr : w40.cell? ⟨0, 0, none⟩ = some (.int .i64 m) := (hbW.cell (p := ⟨0, 0, none⟩) (World.block_lt_of_cell? W _ HM.out)).trans HM.out
        have HK := Lib.hid (known14_any w40 m hmr)
        clear hmr
        go_wp2_with fail
        (with_reducible refine HK.out.mono ?_)
        rintro e w2 ⟨rfl, hb2⟩
        go_wp2_with fail
        go_ret
        exact ⟨rfl, hbW.trans (hb2.mono hbW.size)⟩
      · have hkt := hkp
        have hdk : decide (n < u) = false := by simpa using hkp
        have HKP := Lib.hid hkp
        have HC21 := Lib.hid (st_doE0 HSK.out (by omega) (by omega) unO unO_ok m HM.out (opA 8 ⟨#[47, 97]⟩ ⟨#[]⟩ 0 0 0 0 0 none 0 0) rfl rfl (do_unlink_gone d u n (snB d u) (by have := HKP.out; omega)))
        go_wp2_with fail
        (with_reducible refine HC21.out.mono ?_)
        rintro e w21 ⟨o21, ⟨y21, rfl, da21, la21, dc21, lc21, rfl, p1, p2, p3, p4⟩, hs21, hS21⟩
        have HS21 := Lib.hid hS21
        have HR21 := Lib.hid (And.intro p1 (And.intro p2 (And.intro p3 p4)))
        clear hs21 hS21 p1 p2 p3 p4 HC21 HSK
        unfold reC
        try unfold noM
        have HC22 := Lib.hid (st_doE0 HS21.out (by omega) (by omega) (opS 1) (opS_ok 1 (by omega)) m HM.out (opA 3 ⟨#[47, 97]⟩ ⟨#[]⟩ 0 0 0 0 1 none 0 0) rfl rfl (do_openS newM d u n))
        go_wp2_with fail
        (with_reducible refine HC22.out.mono ?_)
        rintro e w22 ⟨o22, ⟨y22, rfl, da22, la22, dc22, lc22, rfl, p1, p2, p3, p4⟩, hs22, hS22⟩
        have HS22 := Lib.hid hS22
        have HR22 := Lib.hid (And.intro p1 (And.intro p2 (And.intro p3 p4)))
        clear hs22 hS22 p1 p2 p3 p4 HC22 HS21
        go_wp2_with (refine wpList_store_rep (by rfl) 33 _ _ (by rfl) _ (reC ⟨0, 0, [], [], none⟩ da22 la22 dc22 lc22) (by rfl) (by rfl) _ (MapKept.heap_alloc _ _).1 repSize rfl (reC_one _ _ _ _ _) ?_; intro w23 hs23; have HW23 := Lib.hid hs23; clear hs23; obtain ⟨hv23, hb23⟩ := rep_var HS22.out.marks HR22.out.1 HR22.out.2.1 HR22.out.2.2.1 HR22.out.2.2.2 HW23.out; have HV23 := Lib.hid hv23; have HS24 := Lib.hid (HS22.out.grow hb23); clear HS22; clear hv23 hb23 HW23 HR22; have c1 := HV23.out.n; dsimp only at c1)
        have HC25 := Lib.hid (st_doE0 HS24.out (by omega) (by omega) (rdO 0 4096) (rdO_ok 0 4096 (by omega) (by omega)) m HM.out (opA 4 ⟨#[]⟩ ⟨#[]⟩ 0 0 4096 0 0 none 0 0) rfl rfl (do_readall (d := d) (id := 0) rfl (by omega)))
        (with_reducible refine HC25.out.mono ?_)
        rintro e w25 ⟨o25, ⟨y25, rfl, da25, la25, dc25, lc25, rfl, p1, p2, p3, p4⟩, hs25, hS25⟩
        have HS25 := Lib.hid hS25
        have HR25 := Lib.hid (And.intro p1 (And.intro p2 (And.intro p3 p4)))
        have HV26 := Lib.hid (HV23.out.five (by omega) hs25)
        clear HV23
        clear hs25 hS25 p1 p2 p3 p4 HC25 HS24
        go_wp2_with (refine wpList_store_rep (by rfl) 33 _ _ (by rfl) _ (reC ⟨0, d.length, d, [], none⟩ da25 la25 dc25 lc25) (by rfl) (by rfl) _ (MapKept.heap_alloc _ _).1 repSize rfl (reC_one _ _ _ _ _) ?_; intro w27 hs27; have HW27 := Lib.hid hs27; clear hs27; obtain ⟨hv27, hb27⟩ := rep_var HS25.out.marks HR25.out.1 HR25.out.2.1 HR25.out.2.2.1 HR25.out.2.2.2 HW27.out; have HV27 := Lib.hid hv27; have HV28 := Lib.hid (HV26.out.grow HS25.out.marks hb27); clear HV26; have HS29 := Lib.hid (HS25.out.grow hb27); clear HS25; clear hv27 hb27 HW27 HR25)
        clear c1
        have HC30 := Lib.hid (st_doE0 HS29.out (by omega) (by omega) (fgO 1) (fgO_ok 1 (by omega)) m HM.out (opA 15 ⟨#[]⟩ ⟨#[]⟩ 0 0 0 0 1 none 0 0) rfl rfl (do_forget_gone newM d u n (some ⟨false, 0, d⟩) (by have := HKP.out; omega)))
        go_wp2_with fail
        (with_reducible refine HC30.out.mono ?_)
        rintro e w30 ⟨o30, ⟨y30, rfl, da30, la30, dc30, lc30, rfl, p1, p2, p3, p4⟩, hs30, hS30⟩
        have HS30 := Lib.hid hS30
        have HR30 := Lib.hid (And.intro p1 (And.intro p2 (And.intro p3 p4)))
        have HV31 := Lib.hid (HV28.out.five (by omega) hs30)
        clear HV28
        have HV32 := Lib.hid (HV27.out.five (by omega) hs30)
        clear HV27
        clear hs30 hS30 p1 p2 p3 p4 HC30 HS29
        unfold reC
        try unfold noM
        have c1 := HV31.out.n
        dsimp only at c1
        have HC33 := Lib.hid (st_doE0 HS30.out (by omega) (by omega) (rdO 0 4096) (rdO_ok 0 4096 (by omega) (by omega)) m HM.out (opA 4 ⟨#[]⟩ ⟨#[]⟩ 0 0 4096 0 0 none 0 0) rfl rfl (do_readall (d := d) (id := 0) rfl (by omega)))
        go_wp2_with fail
        (with_reducible refine HC33.out.mono ?_)
        rintro e w33 ⟨o33, ⟨y33, rfl, da33, la33, dc33, lc33, rfl, p1, p2, p3, p4⟩, hs33, hS33⟩
        have HS33 := Lib.hid hS33
        have HR33 := Lib.hid (And.intro p1 (And.intro p2 (And.intro p3 p4)))
        have HV34 := Lib.hid (HV31.out.five (by omega) hs33)
        clear HV31
        have HV35 := Lib.hid (HV32.out.five (by omega) hs33)
        clear HV32
        clear hs33 hS33 p1 p2 p3 p4 HC33 HS30
        go_wp2_with (refine wpList_store_rep (by rfl) 33 _ _ (by rfl) _ (reC ⟨0, d.length, d, [], none⟩ da33 la33 dc33 lc33) (by rfl) (by rfl) _ (MapKept.heap_alloc _ _).1 repSize rfl (reC_one _ _ _ _ _) ?_; intro w36 hs36; have HW36 := Lib.hid hs36; clear hs36; obtain ⟨hv36, hb36⟩ := rep_var HS33.out.marks HR33.out.1 HR33.out.2.1 HR33.out.2.2.1 HR33.out.2.2.2 HW36.out; have HV36 := Lib.hid hv36; have HV37 := Lib.hid (HV34.out.grow HS33.out.marks hb36); clear HV34; have HV38 := Lib.hid (HV35.out.grow HS33.out.marks hb36); clear HV35; have HS39 := Lib.hid (HS33.out.grow hb36); clear HS33; clear hv36 hb36 HW36 HR33)
        clear c1
        have HC40 := Lib.hid (st_doE0 HS39.out (by omega) (by omega) (stO 1) (stO_ok 1 (by omega)) m HM.out (opA 12 ⟨#[47, 97]⟩ ⟨#[]⟩ 0 0 0 0 1 none 0 0) rfl rfl (do_stat_none newM d u n (some ⟨false, 0, d⟩)))
        go_wp2_with fail
        (with_reducible refine HC40.out.mono ?_)
        rintro e w40 ⟨o40, ⟨y40, rfl, da40, la40, dc40, lc40, rfl, p1, p2, p3, p4⟩, hs40, hS40⟩
        have HS40 := Lib.hid hS40
        have HR40 := Lib.hid (And.intro p1 (And.intro p2 (And.intro p3 p4)))
        have HV41 := Lib.hid (HV37.out.five (by omega) hs40)
        clear HV37
        have HV42 := Lib.hid (HV38.out.five (by omega) hs40)
        clear HV38
        have HV43 := Lib.hid (HV36.out.five (by omega) hs40)
        clear HV36
        clear hs40 hS40 p1 p2 p3 p4 HC40 HS39
        unfold reC
        try unfold noM
        have x1 := HV41.out.er
        have x2 := HV42.out.dat
        have x3 := conv_row (c := dc25) HV42.out.data
        have x4 := HV43.out.dat
        have x5 := conv_row (c := dc33) HV43.out.data
        have x6 := conv_row (c := dc) (HDA.out.below HS40.out.below (Nat.le_refl _))
        dsimp only at x1 x2 x3 x4 x5
        have hbW := HS40.out.below
        have hmr : w40.cell? ⟨0, 0, none⟩ = some (.int .i64 m) := (hbW.cell (p := ⟨0, 0, none⟩) (World.block_lt_of_cell? W _ HM.out)).trans HM.out
        have HK := Lib.hid (known14_any w40 m hmr)
        clear hmr
        go_wp2_with fail
        (with_reducible refine HK.out.mono ?_)
        rintro e w2 ⟨rfl, hb2⟩
        go_wp2_with fail
        go_ret
        exact ⟨rfl, hbW.trans (hb2.mono hbW.size)⟩
end Go.Proofs.YtpgklnhkfgbpgaaGreatDoor.stateSnaps
