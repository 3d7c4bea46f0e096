/- The reference's disk: Crash. -/
import Derived.Test.YtkdomgiabiedlaaRefB
import Derived.Deep.DeepCutAuto
namespace Go.Proofs.Ytkdomgiabiedlaa
open Go.ChangeShapes Go.WideShapes Go.ChangeAt Go.RowKit
set_option linter.unusedVariables false
set_option linter.unusedSimpArgs false

def cntK (ks : List Int) (i : Nat) : Nat := (ks.filter fun z => decide (z < (i : Int))).length
theorem idx_cnt : ∀ {ks : List Int}, ks.Pairwise (· < ·) → ∀ {i : Nat}, (i : Int) ∈ ks → ks.idxOf (i : Int) = cntK ks i
  | x :: r, hp, i, hm => by
    obtain ⟨h1, h2⟩ := List.pairwise_cons.1 hp
    rw [List.idxOf_cons]
    by_cases hx : x = (i : Int)
    · have hr : r.filter (fun z => decide (z < (i : Int))) = [] := by
        rw [List.filter_eq_nil_iff]
        intro z hz
        have := h1 z hz
        simp
        omega
      unfold cntK
      simp [hx, hr]
    · have hm' : (i : Int) ∈ r := by
        rcases List.mem_cons.1 hm with h | h
        · exact absurd h.symm hx
        · exact h
      have hlt : x < (i : Int) := h1 _ hm'
      have := idx_cnt h2 hm'
      have hb : (x == (i : Int)) = false := by simpa using hx
      unfold cntK at this ⊢
      rw [hb, List.filter_cons, if_pos (by simpa using hlt), List.length_cons, this]
      rfl
theorem cnt_step : ∀ {ks : List Int}, ks.Pairwise (· < ·) → ∀ (i : Nat), cntK ks (i + 1) = cntK ks i + if (i : Int) ∈ ks then 1 else 0
  | [], _, i => rfl
  | x :: r, hp, i => by
    obtain ⟨h1, h2⟩ := List.pairwise_cons.1 hp
    have ih := cnt_step h2 i
    unfold cntK at ih ⊢
    rw [List.filter_cons, List.filter_cons]
    by_cases hx : x = (i : Int)
    · have hn : ¬ (i : Int) ∈ r := fun h => by have := h1 _ h; omega
      rw [if_neg hn] at ih
      rw [if_pos (by simp; omega), if_neg (by simp; omega), if_pos (by simp [hx]), List.length_cons, ih]
    · have hm : ((i : Int) ∈ x :: r) ↔ ((i : Int) ∈ r) := by
        rw [List.mem_cons]
        exact ⟨fun h => h.resolve_left (fun e => hx e.symm), .inr⟩
      by_cases hlt : x < (i : Int)
      · rw [if_pos (by simp; omega), if_pos (by simp; omega), List.length_cons, List.length_cons, ih]
        simp only [hm]
        omega
      · rw [if_neg (by simp; omega), if_neg (by simp; omega), ih]
        simp only [hm]
theorem cnt_le (ks : List Int) (i : Nat) : cntK ks i ≤ ks.length := List.length_filter_le _ _

/-- The reference's disk is as the model says. -/
structure Sim (M : DiskM) (R : RefM) : Prop where
  safe : R.safe = M.safe
  now : R.now = imgM M
  dirty : R.dirty = (List.range 64).map fun i : Nat => (dkeys M).contains (i : Int)
  writes : R.writes = M.writes
  ok : Ok64 M
  rise : (dkeys M).Pairwise (· < ·)
  secs : ∀ z ∈ dkeys M, 0 ≤ z ∧ z < 64
  len : (dkeys M).length ≤ 4096
  bd : -9223372036854775808 ≤ M.writes ∧ M.writes ≤ 4611686018427387904
def crTo (M : DiskM) (keep : List Bool) (torn cut : Int) (k i : Nat) : List UInt8 := if i < k then crashRow M keep torn cut i else rowsOf M.safe i
theorem crTo_len {M : DiskM} (h : Ok64 M) (keep : List Bool) (torn cut : Int) (k : Nat) {i : Nat} (hi : i < 64) : (crTo M keep torn cut k i).length = 128 := by
  unfold crTo
  split
  · exact h.crashLen keep torn cut hi
  · exact rowsOf_len (n := 64) h.1 hi
theorem cr_step {M : DiskM} (h : Ok64 M) {keep : List Bool} {torn cut : Int} {i : Nat} (hi : i < 64) {r : List UInt8} (hr : r.length ≤ 128) (hrow : r ++ (rowsOf M.safe i).drop r.length = crashRow M keep torn cut i) :
    splice (mix 64 (crTo M keep torn cut i)) (i * 128) r = mix 64 (crTo M keep torn cut (i + 1)) := by
  rw [splice_mix hi (fun j hj => crTo_len h keep torn cut i hj) hr]
  refine mix_congr fun j hj => ?_
  by_cases hji : j = i
  · subst hji
    rw [if_pos rfl]
    unfold crTo
    rw [if_neg (by omega), if_pos (by omega), hrow]
  · rw [if_neg hji]
    unfold crTo
    by_cases h1 : j < i
    · rw [if_pos h1, if_pos (by omega)]
    · rw [if_neg h1, if_neg (by omega)]
def CrRel (w : World) (sb : Nat) (M : DiskM) (keep : List Bool) (torn cut : Int) (s8 s9 : Value) (wr : World) : Prop :=
  ∃ i : Nat, s9 = .int .i64 i ∧ i ≤ 64 ∧ s8 = .int .i64 (cntK (dkeys M) i : Nat) ∧ Keeps (fun x => x = sb) w wr ∧ wr.heap.size = w.heap.size ∧
    Hid (wr.heap[sb]? = some (.cells ((mix 64 (crTo M keep torn cut i)).map bv).toArray 5 (0, 0)))

set_option maxRecDepth 100000 in
set_option maxHeartbeats 8000000 in
theorem rcrash_any {F S : Nat → Prop} {r sb nb tb : Nat} {R : RefM} {M : DiskM} (hs : Sim M R) (keep : List Bool) (ka : Option Addr) (kn kcap : Nat) (torn cut : Int) (w : World) (h : RefAt F w r sb nb tb R) (hkp : RowAt S w ka kn (keep.map Value.bool)) (hS : ∀ b, S b → ¬ F b) :
    Calls Try.prog 35 #[.pointer (some ⟨r, 0, none⟩), .slice ka kn kcap, .int .i64 torn, .int .i64 cut] w (RefTurned F w r ⟨(crashM M keep torn cut).safe, (crashM M keep torn cut).safe, List.replicate 64 false, M.writes⟩ (.tuple #[])) := by
  obtain ⟨i0, hi, hz0, hz1, hz2⟩ := info_parts infoBool
  obtain ⟨hc0, hc1, hc2, hc3⟩ := ref_cells h
  obtain ⟨hlr, hlsb, hlnb, hltb⟩ : r < w.heap.size ∧ sb < w.heap.size ∧ nb < w.heap.size ∧ tb < w.heap.size := ⟨h.low _ h.own.1, h.low _ h.own.2.1, h.low _ h.own.2.2.1, h.low _ h.own.2.2.2⟩
  obtain ⟨p1, p2, p3, p4, p5, p6⟩ := h.apart
  have hkl : keep.length = kn := by have := hkp.length; simpa using this
  have HH := Lib.hid h
  have HSI := Lib.hid hs
  have HKP := Lib.hid hkp
  have HSF := Lib.hid hS
  have HKL := Lib.hid hkl
  have hcl : ∃ c : Nat, c = clampN cut := ⟨_, rfl⟩
  obtain ⟨c, hc⟩ := hcl
  have hcc : (c : Int) = min (max cut 0) 128 := by rw [hc]; unfold clampN; omega
  have HC := Lib.hid hc
  have HCC := Lib.hid hcc
  have hc128 : c ≤ 128 := by omega
  clear h hs hkp hS hkl hc hcc
  go_enter Try.func35, Try.ntmps35
  go_upto_if 12 with (fail)
  go_cut [3] (fun s wx => ∃ z, s = .int .i64 z ∧ z = max cut 0 ∧ w = wx)
  case first =>
    by_cases h0 : cut < 0
    · go_wp2_with fail
      go_meet
      exact ⟨0, rfl, by omega, rfl⟩
    · go_wp2_with fail
      go_meet
      exact ⟨cut, rfl, by omega, rfl⟩
  case rest =>
    obtain ⟨z, rfl, hz, rfl⟩ := hcut
    have hzc : (c : Int) = min z 128 := by rw [HCC.out, hz]
    have HZ := Lib.hid hzc
    clear hz hzc
    go_upto_if 14 with (fail)
    go_cut [3] (fun s wx => s = .int .i64 (c : Int) ∧ w = wx)
    case first =>
      have hzc := HZ.out
      by_cases h0 : 128 < z
      · obtain rfl : c = 128 := by omega
        clear hzc
        go_wp2_with fail
        go_meet
        exact ⟨rfl, rfl⟩
      · obtain rfl : z = (c : Int) := by omega
        clear hzc
        go_wp2_with fail
        go_meet
        exact ⟨rfl, rfl⟩
    case rest =>
      obtain ⟨rfl, rfl⟩ := hcut
      go_wp2_with fail
      go_loopw [8, 9] (fun s8 s9 wr => CrRel w sb M keep torn cut s8 s9 wr) (fun _ s9 _ => 64 - (intOf s9).toNat)
      case atStart =>
        refine ⟨0, rfl, by omega, ?_, Keeps.refl _ _, rfl, ?_⟩
        · have : cntK (dkeys M) 0 = 0 := by
            unfold cntK
            rw [List.length_eq_zero_iff, List.filter_eq_nil_iff]
            intro z hz
            have := (HSI.out.secs z hz).1
            simp
            omega
          rw [this]; rfl
        · show _ = _
          rw [HH.out.safe, HSI.out.safe, mix_congr (g := rowsOf M.safe) (fun i _ => by unfold crTo; rw [if_neg (by omega)]), mix_rowsOf (by rw [HSI.out.ok.1])]
      case round =>
        obtain ⟨i, rfl, hi64, rfl, hK, hsz, HG⟩ := hrel
        have hhr : wr.heap[r]? = w.heap[r]? := hK.block r hlr p1
        have q0 := (World.cell?_of_block (w := w) (w' := wr) (a := ⟨r, 0, none⟩) hhr).trans hc0
        have q1' := (World.cell?_of_block (w := w) (w' := wr) (a := ⟨r, 1, none⟩) hhr).trans hc1
        have q2 := (World.cell?_of_block (w := w) (w' := wr) (a := ⟨r, 2, none⟩) hhr).trans hc2
        have HHR := Lib.hid hhr
        clear hhr hc0 hc1 hc2 hc3
        by_cases hlt : i < 64
        · have i0' : (0 : Int) ≤ (i : Int) := by omega
          have i1' : (i : Int) < 64 := by omega
          have hdc : wr.cell? ⟨tb, i, none⟩ = some (.bool ((dkeys M).contains (i : Int))) := by
            rw [World.cell?_of_block (w := w) (w' := wr) (hK.block tb hltb (Ne.symm p5))]
            have := HH.out.dirty
            simp only [World.cell?, this]
            rw [HSI.out.dirty]
            simp [hlt]
          have hcs := cnt_step HSI.out.rise i
          have hcl := cnt_le (dkeys M) i
          have hcl4 := HSI.out.len
          by_cases hm : (i : Int) ∈ dkeys M
          · have hcon : (dkeys M).contains (i : Int) = true := by simpa using hm
            rw [if_pos hm] at hcs
            rw [hcon] at hdc
            have hidx := idx_cnt HSI.out.rise hm
            have hrow : crashRow M keep torn cut i = if ((cntK (dkeys M) i : Nat) : Int) = torn then (readOf M i).take c ++ (rowsOf M.safe i).drop c else if keep.getD (cntK (dkeys M) i) false then readOf M i else rowsOf M.safe i := by
              unfold crashRow
              rw [if_pos hcon, hidx, ← HC.out]
            have hrl := HSI.out.ok.2 i hlt
            have hnr : ∀ j u, ((readOf M i).map bv)[j]? = some u → wr.cell? ⟨nb, i * 128 + j, none⟩ = some u := by
              intro j u hu
              rw [World.cell?_of_block (w := w) (w' := wr) (a := ⟨nb, i * 128 + j, none⟩) (hK.block nb hlnb (Ne.symm p4))]
              have hn := HH.out.now
              simp only [World.cell?, hn]
              rw [HSI.out.now]
              rw [← HSI.out.ok.rows hlt] at hu
              unfold rowsOf at hu
              rw [List.getElem?_map, List.getElem?_take] at hu
              split at hu
              · rw [List.getElem?_drop] at hu
                simpa using hu
              · simp at hu
            have hml : (mix 64 (crTo M keep torn cut i)).length = 8192 := mix_len (fun j hj => crTo_len HSI.out.ok keep torn cut i hj)
            generalize hk0 : cntK (dkeys M) i = k at hcs hcl hrow ⊢
            have HCS := Lib.hid hcs
            have HRL := Lib.hid hrl
            have HNR := Lib.hid hnr
            have HML := Lib.hid hml
            have e1 : IntKind.i64.wrap ((i : Int) * 128) = (i : Int) * 128 := IntWalk.i64_in _ (by omega)
            have e4 : IntKind.i64.wrap ((k : Int) + 1) = (k : Int) + 1 := IntWalk.i64_in _ (by omega)
            clear hcs hidx hcon hm hk0 hrl hnr hml
            have hkb : k ≤ 4096 := by omega
            by_cases ht : (k : Int) = torn
            · have t1 : ((k : Int) == torn) = true := by simpa using ht
              rw [if_pos ht] at hrow
              have hst := cr_step HSI.out.ok hlt (r := (readOf M i).take c) (by rw [List.length_take]; omega) (by rw [hrow, List.length_take, HRL.out, Nat.min_eq_left hc128])
              have HST := Lib.hid hst
              clear ht hrow hst
              have j0 : (0 : Int) ≤ (i : Int) * 128 := by omega
              have t0 : ((i : Int) * 128).toNat = i * 128 := by omega
              have q1 : ¬ 8192 = i * 128 := by omega
              have j4 : (i : Int) * 128 ≤ 8192 := by omega
              have e2 : IntKind.i64.wrap ((i : Int) * 128 + (c : Int)) = (i : Int) * 128 + (c : Int) := IntWalk.i64_in _ (by omega)
              have j9 : (0 : Int) ≤ (i : Int) * 128 + (c : Int) := by omega
              have j1 : (i : Int) * 128 + (c : Int) ≤ 8192 := by omega
              have j5 : (i : Int) * 128 ≤ (i : Int) * 128 + (c : Int) := by omega
              have j6 : max ((i : Int) * 128 + (c : Int)) 0 = (i : Int) * 128 + (c : Int) := by omega
              have t1' : ((i : Int) * 128 + (c : Int)).toNat = i * 128 + c := by omega
              have t2 : i * 128 + c - i * 128 = c := by omega
              have hnm : ((readOf M i).take c).length = Nat.min c c := by rw [List.length_take, HRL.out]; show min _ _ = min _ _; omega
              have hfit : i * 128 + ((readOf M i).take c).length ≤ ((mix 64 (crTo M keep torn cut i)).map bv).length := by rw [List.length_map, HML.out, hnm]; show _ + min _ _ ≤ _; omega
              have hpos : 0 < ((readOf M i).take c).length → ∃ ad, some (⟨nb, i * 128, none⟩ : Addr) = some ad ∧ ∀ k v, (((readOf M i).take c).map bv)[k]? = some v → wr.drew.cell? (ad.add k) = some v := fun _ => ⟨_, rfl, fun k v hk => by
                rw [add_plain]
                show wr.cell? _ = _
                refine HNR.out k v ?_
                rw [List.map_take, List.getElem?_take] at hk
                split at hk
                · exact hk
                · cases hk⟩
              have hgd : wr.drew.heap[sb]? = some (.cells ((mix 64 (crTo M keep torn cut i)).map bv).toArray 5 (0, 0)) := HG.out
              have HNM := Lib.hid hnm
              have HF := Lib.hid hfit
              have HP := Lib.hid hpos
              have HGD := Lib.hid hgd
              have hlrr : r < wr.heap.size := by omega
              clear hnm hfit hpos hgd
              go_wp2_with fail
              go_region_held3 (fun w' => w'.cell? ⟨r, 0, none⟩ = some (.slice (some ⟨sb, 0, none⟩) 8192 8192) ∧ w'.cell? ⟨r, 1, none⟩ = some (.slice (some ⟨nb, 0, none⟩) 8192 8192)) ((first | exact ⟨q0, q1'⟩ | exact ⟨(World.cell?_of_block (w := wr) (w' := w2) (a := ⟨r, 0, none⟩) (hK2.block r hlrr p1)).trans q0, (World.cell?_of_block (w := wr) (w' := w2) (a := ⟨r, 1, none⟩) (hK2.block r hlrr p1)).trans q1'⟩)) ((refine step_copy_v (by rfl) _ _ 22 22 (by rfl) 5 Try.underlying22 Try.size8 (some ⟨nb, i * 128, none⟩) sb (i * 128) c (8192 - i * 128) c (8192 - i * 128) (by rfl) (by rfl) _ 5 HGD.out ((readOf M i).take c) HNM.out HP.out HF.out ?_; intro w2 HS2 hK2 hs2))
              have hs2' : w2.heap.size = wr.heap.size := hs2
              have HX := Lib.hid hK2
              clear hK2
              go_wp2
              go_roundw
              case rel =>
                refine ⟨i + 1, by go_num, by omega, by rw [HCS.out]; go_num, ?_, by rw [hs2', hsz], ?_⟩
                · exact ⟨HX.out.os.trans hK.os, HX.out.tape.trans hK.tape, HX.out.output.trans hK.output, by rw [hs2']; exact hK.size, fun x hx hn => (HX.out.block x (show x < wr.heap.size by omega) hn).trans (hK.block x hx hn)⟩
                · show _ = _
                  rw [HS2.out, splice_map, HST.out]
              case measure => simp [intOf]; omega
            · have t1 : ((k : Int) == torn) = false := by simpa using ht
              rw [if_neg ht] at hrow
              clear ht
              have ik : (0 : Int) ≤ (k : Int) := by omega
              by_cases hkk : k < kn
              · obtain ⟨bk, ok, rfl, hSk, hbk, hck⟩ := HKP.out.at_ (by omega)
                have hne : bk ≠ sb := fun e => HSF.out _ hSk (e ▸ HH.out.own.2.1)
                have hkc : wr.cell? ⟨bk, ok + k, none⟩ = some (.bool (keep.getD k false)) := by
                  rw [World.cell?_of_block (w := w) (w' := wr) (hK.block bk hbk hne), hck k hkk, List.getElem?_map, List.getElem?_eq_getElem (by rw [HKL.out]; exact hkk)]
                  simp [List.getD, List.getElem?_eq_getElem (show k < keep.length by rw [HKL.out]; exact hkk)]
                have hdk : decide (k < kn) = true := by simpa using hkk
                have ik2 : (k : Int) < (kn : Int) := by omega
                clear hck
                cases hkv : keep.getD k false with
                | true =>
                  rw [hkv] at hkc hrow
                  rw [if_pos rfl] at hrow
                  have hst := cr_step HSI.out.ok hlt (r := readOf M i) (by rw [HRL.out]; omega) (by rw [hrow, HRL.out, List.drop_eq_nil_of_le (by rw [rowsOf_len (n := 64) HSI.out.ok.1 hlt]; omega), List.append_nil])
                  have HST := Lib.hid hst
                  clear hrow hst hkv
                  have j0 : (0 : Int) ≤ (i : Int) * 128 := by omega
                  have t0 : ((i : Int) * 128).toNat = i * 128 := by omega
                  have q1 : ¬ 8192 = i * 128 := by omega
                  have j4 : (i : Int) * 128 ≤ 8192 := by omega
                  have e2 : IntKind.i64.wrap ((i : Int) * 128 + 128) = (i : Int) * 128 + 128 := IntWalk.i64_in _ (by omega)
                  have j9 : (0 : Int) ≤ (i : Int) * 128 + 128 := by omega
                  have j1 : (i : Int) * 128 + 128 ≤ 8192 := by omega
                  have j5 : (i : Int) * 128 ≤ (i : Int) * 128 + 128 := by omega
                  have j6 : max ((i : Int) * 128 + 128) 0 = (i : Int) * 128 + 128 := by omega
                  have t1' : ((i : Int) * 128 + 128).toNat = i * 128 + 128 := by omega
                  have t2 : i * 128 + 128 - i * 128 = 128 := by omega
                  have hnm : (readOf M i).length = Nat.min 128 128 := by rw [HRL.out]; rfl
                  have hfit : i * 128 + (readOf M i).length ≤ ((mix 64 (crTo M keep torn cut i)).map bv).length := by rw [List.length_map, HML.out, hnm]; show _ + min _ _ ≤ _; omega
                  have hpos : 0 < (readOf M i).length → ∃ ad, some (⟨nb, i * 128, none⟩ : Addr) = some ad ∧ ∀ k v, ((readOf M i).map bv)[k]? = some v → wr.drew.cell? (ad.add k) = some v := fun _ => ⟨_, rfl, fun k v hk => by
                    rw [add_plain]
                    show wr.cell? _ = _
                    exact HNR.out k v hk⟩
                  have hgd : wr.drew.heap[sb]? = some (.cells ((mix 64 (crTo M keep torn cut i)).map bv).toArray 5 (0, 0)) := HG.out
                  have HNM := Lib.hid hnm
                  have HF := Lib.hid hfit
                  have HP := Lib.hid hpos
                  have HGD := Lib.hid hgd
                  have hlrr : r < wr.heap.size := by omega
                  clear hnm hfit hpos hgd
                  go_wp2_with fail
                  go_region_held3 (fun w' => w'.cell? ⟨r, 0, none⟩ = some (.slice (some ⟨sb, 0, none⟩) 8192 8192) ∧ w'.cell? ⟨r, 1, none⟩ = some (.slice (some ⟨nb, 0, none⟩) 8192 8192)) ((first | exact ⟨q0, q1'⟩ | exact ⟨(World.cell?_of_block (w := wr) (w' := w2) (a := ⟨r, 0, none⟩) (hK2.block r hlrr p1)).trans q0, (World.cell?_of_block (w := wr) (w' := w2) (a := ⟨r, 1, none⟩) (hK2.block r hlrr p1)).trans q1'⟩)) ((refine step_copy_v (by rfl) _ _ 22 22 (by rfl) 5 Try.underlying22 Try.size8 (some ⟨nb, i * 128, none⟩) sb (i * 128) 128 (8192 - i * 128) 128 (8192 - i * 128) (by rfl) (by rfl) _ 5 HGD.out (readOf M i) HNM.out HP.out HF.out ?_; intro w2 HS2 hK2 hs2))
                  have hs2' : w2.heap.size = wr.heap.size := hs2
                  have HX := Lib.hid hK2
                  clear hK2
                  go_wp2
                  go_roundw
                  case rel =>
                    refine ⟨i + 1, by go_num, by omega, by rw [HCS.out]; go_num, ?_, by rw [hs2', hsz], ?_⟩
                    · exact ⟨HX.out.os.trans hK.os, HX.out.tape.trans hK.tape, HX.out.output.trans hK.output, by rw [hs2']; exact hK.size, fun x hx hn => (HX.out.block x (show x < wr.heap.size by omega) hn).trans (hK.block x hx hn)⟩
                    · show _ = _
                      rw [HS2.out, splice_map, HST.out]
                  case measure => simp [intOf]; omega
                | false =>
                  rw [hkv] at hkc hrow
                  rw [if_neg (by simp)] at hrow
                  have hst := cr_step HSI.out.ok hlt (r := []) (by simp) (by rw [hrow]; simp)
                  have HST := Lib.hid hst
                  clear hrow hst hkv
                  go_wp2
                  go_roundw
                  case rel =>
                    refine ⟨i + 1, by go_num, by omega, by rw [HCS.out]; go_num, hK, hsz, ?_⟩
                    show _ = _
                    rw [← HST.out]
                    have := HG.out
                    unfold splice
                    simpa using this
                  case measure => simp [intOf]; omega
              · have hdk : decide (k < kn) = false := by simpa using hkk
                have hgd : keep.getD k false = false := by simp [List.getD, List.getElem?_eq_none (show keep.length ≤ k by rw [HKL.out]; omega)]
                rw [hgd, if_neg (by simp)] at hrow
                have hst := cr_step HSI.out.ok hlt (r := []) (by simp) (by rw [hrow]; simp)
                have HST := Lib.hid hst
                clear hrow hst hgd
                go_wp2
                go_roundw
                case rel =>
                  refine ⟨i + 1, by go_num, by omega, by rw [HCS.out]; go_num, hK, hsz, ?_⟩
                  show _ = _
                  rw [← HST.out]
                  have := HG.out
                  unfold splice
                  simpa using this
                case measure => simp [intOf]; omega
          · have hcon : (dkeys M).contains (i : Int) = false := by simpa using hm
            rw [if_neg hm, Nat.add_zero] at hcs
            rw [hcon] at hdc
            have hst := cr_step HSI.out.ok hlt (keep := keep) (torn := torn) (cut := cut) (r := []) (by simp) (by unfold crashRow; rw [if_neg (by rw [hcon]; simp)]; simp)
            have HST := Lib.hid hst
            have HCS := Lib.hid hcs
            clear hst hcs hcon hm
            go_wp2
            go_roundw
            case rel =>
              refine ⟨i + 1, by go_num, by omega, by rw [HCS.out]; rfl, hK, hsz, ?_⟩
              show _ = _
              rw [← HST.out]
              have := HG.out
              unfold splice
              simpa using this
            case measure => simp [intOf]; omega
        · obtain rfl : i = 64 := by omega
          have hsf : mix 64 (crTo M keep torn cut 64) = (crashM M keep torn cut).safe := by
            unfold crashM
            simp only [HSI.out.ok.len]
            exact mix_congr fun j hj => by unfold crTo; rw [if_pos (by omega)]
          have hsl := (HSI.out.ok.crash keep torn cut).1
          have hg := HG.out
          rw [hsf] at hg
          generalize hSF : (crashM M keep torn cut).safe = SF at hsl hg
          have HSFE := Lib.hid hSF
          clear hSF
          have hnl := HH.out.len.2.1
          have hnow := (hK.block nb hlnb (Ne.symm p4)).trans HH.out.now
          have hnm : SF.length = Nat.min 8192 8192 := by rw [hsl]; rfl
          have hfit : 0 + SF.length ≤ (R.now.map bv).length := by rw [List.length_map, hnl, hsl]; omega
          have hpos : 0 < SF.length → ∃ ad, some (⟨sb, 0, none⟩ : Addr) = some ad ∧ ∀ k v, (SF.map bv)[k]? = some v → wr.drew.cell? (ad.add k) = some v := fun _ => ⟨_, rfl, fun k v hk => by
            rw [add_plain]
            show wr.cell? _ = _
            simp only [World.cell?, hg, Nat.zero_add]
            simpa using hk⟩
          have hnowd : wr.drew.heap[nb]? = some (.cells (R.now.map bv).toArray 5 (0, 0)) := hnow
          have HG2 := Lib.hid hg
          have HNW := Lib.hid hnowd
          have HNM := Lib.hid hnm
          have HF := Lib.hid hfit
          have HP := Lib.hid hpos
          have HSL := Lib.hid hsl
          have hlrr : r < wr.heap.size := by omega
          clear hsf hg hnow hnowd hnm hfit hpos hsl hnl
          go_wp2_with fail
          go_region_held3 (fun w' => w'.cell? ⟨r, 0, none⟩ = some (.slice (some ⟨sb, 0, none⟩) 8192 8192) ∧ w'.cell? ⟨r, 1, none⟩ = some (.slice (some ⟨nb, 0, none⟩) 8192 8192)) ((first | exact ⟨q0, q1'⟩ | exact ⟨(World.cell?_of_block (w := wr) (w' := w2) (a := ⟨r, 0, none⟩) (hK2.block r hlrr p2)).trans q0, (World.cell?_of_block (w := wr) (w' := w2) (a := ⟨r, 1, none⟩) (hK2.block r hlrr p2)).trans q1'⟩)) ((refine step_copy_v (by rfl) _ _ 22 22 (by rfl) 5 Try.underlying22 Try.size8 (some ⟨sb, 0, none⟩) nb 0 8192 8192 8192 8192 (by rfl) (by rfl) _ 5 HNW.out SF HNM.out HP.out HF.out ?_; intro w2 HS2 hK2 hs2))
          have hr2 := (World.cell?_of_block (w := wr) (w' := w2) (a := ⟨r, 2, none⟩) (hK2.block r hlrr p2)).trans q2
          have hh2 := Lib.hid (((hK2.block r hlrr p2).trans HHR.out).trans HH.out.head)
          have hrw : r < w2.heap.size := by rw [hs2]; exact hlrr
          clear q0 q1' q2
          go_wp2_with (at_make; refine wpList_make_full _ rfl _ _ 34 rfl w2.heap.size 4 i0 (.bool false) 1 Try.underlying34 hi hz0 hz1 .i64 .i64 64 64 64 rfl rfl (by omega) (by omega) (by rw [hz2]; omega) (by unfold maxLen; omega) (Nat.le_refl _) ?_; intro w3 hown3 hgrow3; obtain ⟨HG3, hB3⟩ := made_bools hown3 hgrow3; clear hown3 hgrow3; have hfr : w3.frozen? ⟨r, 2, none⟩ = false := (hB3.frozen (p := ⟨r, 2, none⟩) hrw).trans (by simp [World.frozen?, hh2.out]); have hcr3 := (hB3.cell (p := ⟨r, 2, none⟩) hrw).trans hr2)
          go_end0
          rw [HSFE.out]
          have h := HH.out
          have hs2' : w2.heap.size = w.heap.size := hs2.trans hsz
          have hs3 := hB3.size
          have hG3 := HG3.out
          rw [hs2'] at hG3
          have hgw := (Array.getElem?_eq_some_iff.1 hG3).1
          have hk2 : ∀ x, x < w.heap.size → x ≠ nb → x ≠ sb → w2.heap[x]? = w.heap[x]? := fun x hx hn hn2 => (hK2.block x (show x < wr.heap.size by omega) hn).trans (hK.block x hx hn2)
          have hsb2 : w2.heap[sb]? = some (.cells (SF.map bv).toArray 5 (0, 0)) := (hK2.block sb (show sb < wr.heap.size by omega) p4).trans HG2.out
          have hnb2 : w2.heap[nb]? = some (.cells (SF.map bv).toArray 5 (0, 0)) := by
            rw [HS2.out, splice_map]
            congr 4
            unfold splice
            rw [List.drop_eq_nil_of_le (by rw [h.len.2.1, HSL.out]; omega)]
            simp
          refine ⟨rfl, fun x => F x ∨ x = w.heap.size, sb, nb, w.heap.size, ?_, fun x hx => hx.imp id (fun e => by omega), ?_⟩
          · constructor
            · rw [heap_set_same ((hB3.block r hrw).trans hh2.out), HSI.out.writes]
              rfl
            · rw [heap_set_other _ _ _ _ (Ne.symm p1), hB3.block sb (by omega)]; exact hsb2
            · rw [heap_set_other _ _ _ _ (Ne.symm p2), hB3.block nb (by omega)]; exact hnb2
            · rw [heap_set_other _ _ _ _ (show w.heap.size ≠ r by omega)]; exact hG3
            · exact ⟨HSL.out, HSL.out, by simp⟩
            · exact ⟨.inl h.own.1, .inl h.own.2.1, .inl h.own.2.2.1, .inr rfl⟩
            · exact ⟨p1, p2, by omega, p4, by omega, by omega⟩
            · intro x hx
              rw [size_set]
              rcases hx with hx | hx
              · have := h.low x hx; omega
              · omega
          · refine ⟨hB3.os.trans (hK2.os.trans hK.os), hB3.tape.trans (hK2.tape.trans hK.tape), hB3.output.trans (hK2.output.trans hK.output), by rw [size_set]; omega, fun x hx hn => ?_⟩
            rw [heap_set_other _ _ _ _ (show x ≠ r from fun e => hn (e ▸ h.own.1)), hB3.block x (by omega)]
            exact hk2 x hx (fun e => hn (e ▸ h.own.2.2.1)) (fun e => hn (e ▸ h.own.2.1))
end Go.Proofs.Ytkdomgiabiedlaa
