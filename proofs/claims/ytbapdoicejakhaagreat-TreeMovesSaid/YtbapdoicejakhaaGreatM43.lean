/- Arguments opened: lists of permafrostlaw11.Ask. permafrostlaw11.played. Literal slices of texts. permafrostlaw11.known. What the laws over 'played' lean on. package codec: the writer. -/
import Derived.Test.YtbapdoicejakhaaGreatM26
import Derived.Test.YtbapdoicejakhaaGreatM42
import Derived.Test.YtbapdoicejakhaaGreatM16
import Derived.Test.YtbapdoicejakhaaGreatM12
import Derived.Test.YtbapdoicejakhaaGreatM25
import Derived.Test.YtbapdoicejakhaaGreatM31
import Derived.Test.YtbapdoicejakhaaGreatM20
namespace Go.Proofs.YtbapdoicejakhaaGreat
open Go.Joins Go.ChangeShapes Go.WideShapes Go.ChangeAt Go.RowKit Go.Deep
set_option linter.unusedVariables false
/-- The nine cells of an Ask. -/
structure AskTAt (W : World) (g off : Nat) (x : AskT) (ba : Option Addr) (bn bc : Nat) : Prop where
  cells : W.cell? ⟨g, off, none⟩ = some (.int .i64 x.kind) ∧ W.cell? ⟨g, off + 1, none⟩ = some (.int .i64 x.P) ∧ W.cell? ⟨g, off + 2, none⟩ = some (.int .i64 x.to_) ∧ W.cell? ⟨g, off + 3, none⟩ = some (.bool x.dir) ∧ W.cell? ⟨g, off + 4, none⟩ = some (.int .i64 x.id) ∧ W.cell? ⟨g, off + 5, none⟩ = some (.int .i64 x.at_) ∧ W.cell? ⟨g, off + 6, none⟩ = some (.int .i64 x.n) ∧ W.cell? ⟨g, off + 7, none⟩ = some (.slice ba bn bc) ∧ W.cell? ⟨g, off + 8, none⟩ = some (.int .u64 x.til)
  ok : x.Ok
  cap : bn ≤ bc
  row : RowAt (fun b => b < W.heap.size) W ba bn (x.b.map bv)
  reach : bn ≤ 140737488351232
def AsksT (W : World) (a : Option Addr) (len : Nat) : Prop :=
  len ≤ maxLen ∧ (0 < len → ∃ b off, a = some ⟨b, off, none⟩ ∧ b < W.heap.size ∧ ∀ k, k < len → ∃ x ba bn bc, AskTAt W b (off + k * 9) x ba bn bc)
theorem u64_of_wf {z : Int} (h : (Lit.int .u64 z).wf = true) : 0 ≤ z ∧ z ≤ 18446744073709551615 := by
  simp [Lit.wf, IntKind.min, IntKind.max, IntKind.signed, IntKind.bits] at h
  omega
section
variable {H : Type} {enc : TypeId × Value → H} {W : World}
theorem open_asks11 {fuel : Nat} {v : Value} {x : DataW H × List MemPlace} (h : DataW.trod enc Tryz.prog W 0 (fun _ => true) true fuel 22 [v] = some x) (l : ∀ p ∈ x.2, p.block < W.heap.size) (hw : ∀ n ∈ x.1.weights Tryz.prog 22, n ≤ reachBytes) :
    ∃ a len cap, v = .slice a len cap ∧ len ≤ cap ∧ AsksT W a len := by
  rcases open_slice_fields Tryz.underlying22 Tryz.underlying66 (by kernel_rfl) (by kernel_rfl) h with ⟨hcs, hx⟩ | ⟨a, len, cap, m, D, Pl, hcs, _, hl, hm, hmm, hx, hi⟩
  · simp only [List.cons.injEq, and_true] at hcs
    subst hcs
    exact ⟨none, 0, 0, rfl, Nat.le_refl _, by simp, fun h => by omega⟩
  · simp only [List.cons.injEq, and_true] at hcs
    subst hcs
    subst hx
    simp only [if_true] at hmm
    subst hmm
    refine ⟨some a, len, m, rfl, hl, by omega, fun h0 => ?_⟩
    have hsub : ∀ (i : Nat) (ys : List (DataW H × List MemPlace)) (j : Nat) (y : DataW H × List MemPlace), i < m → Pl i = ys.flatMap (·.2) → ys[j]? = some y → ∀ p ∈ y.2, p.block < W.heap.size := by
      intro i ys j y hi' hp hy p hpy
      refine l p (List.mem_append_right _ (List.mem_flatMap.2 ⟨i, List.mem_range.2 hi', ?_⟩))
      rw [hp]
      exact List.mem_flatMap.2 ⟨y, List.mem_of_getElem? hy, hpy⟩
    obtain ⟨b, off, spot⟩ := a
    have hspot : spot = none := by
      obtain ⟨ys, n, _, _, _, hf⟩ := hi 0 (by omega)
      obtain ⟨v, y, hc, _⟩ := hf 0 _ rfl
      simpa [Addr.add] using World.cell?_spot hc
    subst hspot
    have hb : b < W.heap.size := l (.cell b off) (List.mem_append_left _ (MemPlace.mem_row.2 ⟨0, by simp; omega, by simp⟩))
    refine ⟨b, off, rfl, hb, fun k hk => ?_⟩
    obtain ⟨ys, n, hD, hP, hyl, hf⟩ := hi k (by omega)
    obtain ⟨v0, y0, c0, e0, t0⟩ := hf 0 _ rfl
    obtain ⟨v1, y1, c1, e1, t1⟩ := hf 1 _ rfl
    obtain ⟨v2, y2, c2, e2, t2⟩ := hf 2 _ rfl
    obtain ⟨v3, y3, c3, e3, t3⟩ := hf 3 _ rfl
    obtain ⟨v4, y4, c4, e4, t4⟩ := hf 4 _ rfl
    obtain ⟨v5, y5, c5, e5, t5⟩ := hf 5 _ rfl
    obtain ⟨v6, y6, c6, e6, t6⟩ := hf 6 _ rfl
    obtain ⟨v7, y7, c7, e7, t7⟩ := hf 7 _ rfl
    obtain ⟨v8, y8, c8, e8, t8⟩ := hf 8 _ rfl
    obtain ⟨z0, f0, _, g0⟩ := DataW.trod_int Tryz.underlying3 t0
    obtain ⟨z1, f1, _, g1⟩ := DataW.trod_int Tryz.underlying3 t1
    obtain ⟨z2, f2, _, g2⟩ := DataW.trod_int Tryz.underlying3 t2
    obtain ⟨z3, f3, _⟩ := DataW.trod_bool Tryz.underlying4 t3
    obtain ⟨z4, f4, _, g4⟩ := DataW.trod_int Tryz.underlying3 t4
    obtain ⟨z5, f5, _, g5⟩ := DataW.trod_int Tryz.underlying3 t5
    obtain ⟨z6, f6, _, g6⟩ := DataW.trod_int Tryz.underlying3 t6
    obtain ⟨a7, n7, k7, bs, rfl, q7, r7, r7w⟩ := open_bytesW t7 (hsub k ys 7 y7 (by omega) hP e7) (fun n hn => hw n (weights_elem Tryz.underlying22 (d := D k) (List.mem_map.2 ⟨k, List.mem_range.2 hk, rfl⟩) (by
      rw [hD]
      exact weights_part Tryz.underlying66 (j := 7) rfl (d := y7.1) (by rw [List.getElem?_map, e7]; rfl) hn)))
    obtain ⟨z8, f8, _, g8⟩ := DataW.trod_int Tryz.underlying27 t8
    simp only [List.cons.injEq, and_true] at f0 f1 f2 f3 f4 f5 f6 f8
    subst f0 f1 f2 f3 f4 f5 f6 f8
    rw [add_plain] at c0 c1 c2 c3 c4 c5 c6 c7 c8
    refine ⟨⟨z0, z1, z2, z3, z4, z5, z6, bs, z8⟩, a7, n7, k7, ⟨⟨c0, ?_, ?_, ?_, ?_, ?_, ?_, ?_, ?_⟩, ⟨g0, g1, g2, g4, g5, g6, u64_of_wf g8⟩, q7, r7, r7w⟩⟩
    · rw [Nat.add_assoc]; exact c1
    · rw [Nat.add_assoc]; exact c2
    · rw [Nat.add_assoc]; exact c3
    · rw [Nat.add_assoc]; exact c4
    · rw [Nat.add_assoc]; exact c5
    · rw [Nat.add_assoc]; exact c6
    · rw [Nat.add_assoc]; exact c7
    · rw [Nat.add_assoc]; exact c8
end
/-- A new reference. -/
def NewRef (w : World) (e : Ending) (w' : World) : Prop := ∃ r, e = .returned (ptr r) ∧ RefAt (fun x => w.heap.size ≤ x ∧ x < w'.heap.size) w' r newM ∧ Below w.heap.size w w'
theorem three_new (w : World) (o1 o2 o3 : Obj) : (((w.alloc o1).alloc o2).alloc o3).heap[w.heap.size]? = some o1 ∧ (((w.alloc o1).alloc o2).alloc o3).heap[w.heap.size + 1]? = some o2 ∧ (((w.alloc o1).alloc o2).alloc o3).heap[w.heap.size + 2]? = some o3 := by
  have h := allocAll_get [o1, o2, o3] w
  exact ⟨h 0 o1 rfl, h 1 o2 rfl, h 2 o3 rfl⟩
theorem rnew_any (w : World) : Calls Tryz.prog 21 #[] w (NewRef w) := by
  go_enter Tryz.func21, Tryz.ntmps21
  go_wp2
  go_ret
  obtain ⟨h0, h1, h2⟩ := three_new w (.cells #[.int .i64 0, .int .i64 2, .int .i64 1, .int .i64 0, .int .u64 0, .bool true] 29) (.cells #[.slice none 0 0] 51) (.cells #[.slice (some ⟨w.heap.size, 0, none⟩) 1 1, .slice (some ⟨w.heap.size + 1, 0, none⟩) 1 1, .slice none 0 0] 100)
  refine ⟨w.heap.size + 2, rfl, ⟨⟨some ⟨w.heap.size, 0, none⟩, 1, some ⟨w.heap.size + 1, 0, none⟩, 1, none, 0, h2, Nat.le_refl _, Nat.le_refl _, Nat.le_refl _, ?_, ⟨[.slice none 0 0], ?_, ?_⟩, RowAt.nil _ _ _, .inl ⟨rfl, rfl⟩⟩, ?_, ?_⟩, ?_⟩
  · exact (row_blk (vs := nodeC (0, freshM 2)) h0 (by simp [nodeC, maxLen])).mono fun b hb => by subst hb; exact ⟨⟨Nat.le_refl _, by simp; omega⟩, by omega⟩
  · exact (row_blk (vs := [.slice none 0 0]) h1 (by simp [maxLen])).mono fun b hb => by subst hb; exact ⟨⟨by omega, by simp⟩, by omega⟩
  · intro i b hb
    cases i with
    | zero =>
      have : b = [] := (Option.some.inj hb).symm
      subst this
      exact ⟨none, 0, rfl, ⟨Nat.le_refl _, by simp [maxLen]⟩, RowAt.nil _ _ _⟩
    | succ i => simp [newM] at hb
  · exact ⟨by omega, by simp⟩
  · exact fun b hb => hb.2
  · exact (((Below.refl _ _).alloc (Nat.le_refl _) _).alloc (by simp) _).alloc (by simp; omega) _
end Go.Proofs.YtbapdoicejakhaaGreat
namespace Go.Proofs.YtbapdoicejakhaaGreat
open Go.ChangeShapes Go.WideShapes Go.ChangeAt Go.RowKit
set_option linter.unusedVariables false
set_option linter.unusedSimpArgs false

def PlayedT (W w : World) (t r : Nat) (wx : World) : Prop := ∃ T, BothT W (fun x => x < w.heap.size) wx t r T ∧ Below w.heap.size w wx
def Played (W w : World) (e : Ending) (w' : World) : Prop := ∃ t r, e = .returned (.tuple #[ptr t, ptr r]) ∧ PlayedT W w t r w'
theorem below_of {W w w1 w2 : World} (hw : Below W.heap.size W w) (h1 : Below w.heap.size w w1) (h2 : Below W.heap.size W w2) (hk : ∀ b, b < w.heap.size → w2.heap[b]? = w1.heap[b]?) (hs : w1.heap.size ≤ w2.heap.size) : Below w.heap.size w w2 :=
  ⟨h2.os.trans hw.os.symm, h2.tape.trans hw.tape.symm, h2.output.trans hw.output.symm, Nat.le_trans h1.size hs, fun b hb => (hk b hb).trans (h1.block b hb)⟩
set_option maxRecDepth 100000 in
set_option maxHeartbeats 8000000 in
theorem played_any {W w : World} (a : Option Addr) (len cap : Nat) (hA : AsksT W a len) (hB : Below W.heap.size W w) : Calls Tryz.prog 13 #[.slice a len cap] w (Played W w) := by
  have hlm := hA.1
  unfold maxLen at hlm
  have HA := Lib.hid hA
  have HBw := Lib.hid hB
  have hWw := hB.size
  clear hA hB
  go_enter Tryz.func13, Tryz.ntmps13
  go_wp2_with fail
  (with_reducible refine (in_new W w HBw.out).mono ?_)
  rintro e w1 ⟨t, rfl, hT1, hb1⟩
  have HT1 := Lib.hid hT1
  have HB1 := Lib.hid hb1
  clear hT1 hb1
  go_wp2_with fail
  (with_reducible refine (rnew_any w1).mono ?_)
  rintro e w2 ⟨r, rfl, hR, hb2⟩
  have hs1 := HB1.out.size
  have hs2 := hb2.size
  have hBP : BothP W (fun x => x < w.heap.size) (fun x => x < w.heap.size ∨ (w1.heap.size ≤ x ∧ x < w2.heap.size)) (fun x => w1.heap.size ≤ x ∧ x < w2.heap.size) w2 t r newM := by
    refine ⟨HT1.out.shield hb2, hR, fun x hx => ⟨.inr hx, by have := hx.1; omega⟩, fun x hx => ⟨.inl hx, fun hf => by have := hf.1; omega⟩, Oky.new⟩
  have HST : Hid (PlayedT W w t r w2) := ⟨newM, ⟨_, _, hBP⟩, HB1.out.trans (hb2.mono hs1)⟩
  clear hR hb2 hBP
  go_upto_block 0 with (fail)
  go_cut [6] from 9 to 29 (fun i wx => PlayedT W w t r wx)
  case first =>
    go_wp2_with fail
    go_loopw [6] (fun i wr => ∃ k : Nat, i = .int .i64 k ∧ k ≤ 40 ∧ PlayedT W w t r wr) (fun i _ => 40 - (intOf i).toNat)
    case atStart => exact ⟨0, rfl, by omega, HST.out⟩
    case round =>
      obtain ⟨k, rfl, hk40, hP⟩ := hrel
      have HP := Lib.hid hP
      clear hP
      by_cases hlt : k < len
      · have hd1 : decide (k < len) = true := by simpa using hlt
        by_cases h40 : k < 40
        · obtain ⟨g, off, rfl, hgw, hAk⟩ := HA.out.2 (by omega)
          obtain ⟨x, ba, bn, bc, hx⟩ := hAk k hlt
          obtain ⟨T, ⟨P, F, hBP⟩, hbw⟩ := HP.out
          have hbW := hBP.tree.below
          obtain ⟨d0, d1, d2, d3, d4, d5, d6, d7, d8⟩ := hx.cells
          have c0 := (hbW.cell (p := ⟨g, off + k * 9, none⟩) hgw).trans d0
          have c1 := (hbW.cell (p := ⟨g, off + k * 9 + 1, none⟩) hgw).trans d1
          have c2 := (hbW.cell (p := ⟨g, off + k * 9 + 2, none⟩) hgw).trans d2
          have c3 := (hbW.cell (p := ⟨g, off + k * 9 + 3, none⟩) hgw).trans d3
          have c4 := (hbW.cell (p := ⟨g, off + k * 9 + 4, none⟩) hgw).trans d4
          have c5 := (hbW.cell (p := ⟨g, off + k * 9 + 5, none⟩) hgw).trans d5
          have c6 := (hbW.cell (p := ⟨g, off + k * 9 + 6, none⟩) hgw).trans d6
          have c7 := (hbW.cell (p := ⟨g, off + k * 9 + 7, none⟩) hgw).trans d7
          have c8 := (hbW.cell (p := ⟨g, off + k * 9 + 8, none⟩) hgw).trans d8
          have HDO := Lib.hid (do11_any x ba bn bc hBP hx.ok (hx.row.below hbW (Nat.le_refl _)) hx.cap hx.reach)
          have HBWR := Lib.hid hbw
          unfold askTV at HDO
          have i0 : (0 : Int) ≤ (k : Int) := by omega
          have i1 : (k : Int) < (len : Int) := by omega
          have i2 : (k : Int) < 40 := by omega
          have hd2 : decide ((k : Int) < 40) = true := by simpa using i2
          clear hAk hx hBP hbW d0 d1 d2 d3 d4 d5 d6 d7 d8 hbw
          go_wp2_with fail
          (with_reducible refine HDO.out.mono ?_)
          rintro e w3 ⟨rfl, T', hBT, hkq, hsz, hbW3⟩
          have HNX : Hid (PlayedT W w t r w3) := ⟨T', hBT, below_of HBw.out HBWR.out hbW3 hkq hsz⟩
          clear hBT hkq hbW3
          go_wp2_with fail
          go_roundw
          case rel => exact ⟨k + 1, by go_num, by omega, HNX.out⟩
          case measure => simp [intOf]; omega
        · have hd2 : decide ((k : Int) < 40) = false := by simp; omega
          go_wp2_with fail
          go_meet
          exact HP.out
      · have hd1 : decide (k < len) = false := by simpa using hlt
        go_wp2_with fail
        go_meet
        exact HP.out
  case rest =>
    go_wp2_with fail
    go_ret2
    exact ⟨t, r, rfl, hcut⟩
end Go.Proofs.YtbapdoicejakhaaGreat
namespace Go.Proofs.YtbapdoicejakhaaGreat
open Go.ChangeShapes Go.WideShapes Go.ChangeAt Go.RowKit
set_option linter.unusedVariables false

theorem strs_lit {w : World} {vs : List Value} {ls : List Nm} {n : Nat} (t : TypeId) (h : vs = (ls.map strOf).map Value.string) (hn : vs.length = n) (hm : n ≤ 1000) (hs : ∀ l ∈ ls, l.length ≤ 1000) : StrsAt (fun b => b = w.heap.size) (w.alloc (.cells vs.toArray t)) (some ⟨w.heap.size, 0, none⟩) n (ls.map strOf) := by
  subst hn
  refine ⟨?_, fun s hs' => ?_⟩
  · rw [← h]
    exact new_row vs t (by unfold maxLen; omega)
  · obtain ⟨l, hl, rfl⟩ := List.mem_map.1 hs'
    rw [strOf_size]
    have := hs l hl
    unfold maxLen; omega

end Go.Proofs.YtbapdoicejakhaaGreat
namespace Go.Proofs.YtbapdoicejakhaaGreat
open Go.ChangeShapes Go.WideShapes Go.ChangeAt Go.RowKit
set_option linter.unusedVariables false
set_option linter.unusedSimpArgs false

def kn1 : TrM := (makeM newM [[97]] 2).2
def kn2 : TrM := (makeM kn1 [[97], [98]] 1).2
def kn3 : TrM := (linkM kn2 [[97], [98]] [[99]]).2
theorem kn1_eq : (makeM newM [[97]] 2).1 = (1, 0) := by kernel_rfl
theorem kn2_eq : (makeM kn1 [[97], [98]] 1).1 = (2, 0) := by kernel_rfl
theorem kn3_eq : (linkM kn2 [[97], [98]] [[99]]).1 = 0 := by kernel_rfl
theorem kn3_node : nodeM kn3 2 = .agg #[.int .i64 2, .int .i64 1, .int .i64 2, .int .i64 0, .int .u64 0, .bool false] := by kernel_rfl
theorem kn3_some : (aget 2 kn3).isSome = true := by kernel_rfl
theorem kn3_len : kn3.length = 3 := by kernel_rfl
set_option maxRecDepth 100000 in
set_option maxHeartbeats 4000000 in
theorem known11_any (w : World) : Calls Tryz.prog 17 #[] w fun e w' => e = .returned (.bool true) ∧ Below w.heap.size w w' := by
  go_enter Tryz.func17, Tryz.ntmps17
  go_wp2_with fail
  (with_reducible refine (in_new w w (Below.refl _ _)).mono ?_)
  rintro e w1 ⟨p, rfl, hT1, hb1⟩
  have HM1 := Lib.hid (in_make (hT1.grow (wall w1 (.cells #[.string ⟨#[97]⟩] 9))) (some ⟨w1.heap.size, 0, none⟩) 1 1 [[97]] 2 (strs_lit (w := w1) (vs := [.string ⟨#[97]⟩]) 9 rfl rfl (by simp) (by simp)) (Nat.le_refl _) (by omega))
  rw [kn1_eq] at HM1
  clear hT1 hb1
  go_wp2_with fail
  (with_reducible refine HM1.out.mono ?_)
  rintro e w2 ⟨rfl, hT2, hK2⟩
  have HM2 := Lib.hid (in_make (T := kn1) (hT2.grow (wall w2 (.cells #[.string ⟨#[97]⟩, .string ⟨#[98]⟩] 9))) (some ⟨w2.heap.size, 0, none⟩) 2 2 [[97], [98]] 1 (strs_lit (w := w2) (vs := [.string ⟨#[97]⟩, .string ⟨#[98]⟩]) 9 rfl rfl (by simp) (by simp)) (Nat.le_refl _) (by omega))
  rw [kn2_eq] at HM2
  clear hT2 hK2 HM1
  go_wp2_with fail
  (with_reducible refine HM2.out.mono ?_)
  rintro e w3 ⟨rfl, hT3, hK3⟩
  have HM3 := Lib.hid (in_link (T := kn2) (hT3.grow ((wall w3 (.cells #[.string ⟨#[97]⟩, .string ⟨#[98]⟩] 9)).alloc (by simp) (.cells #[.string ⟨#[99]⟩] 9))) (some ⟨w3.heap.size, 0, none⟩) 2 2 [[97], [98]] (some ⟨w3.heap.size + 1, 0, none⟩) 1 1 [[99]]
    ((strs_lit (w := w3) (vs := [.string ⟨#[97]⟩, .string ⟨#[98]⟩]) 9 rfl rfl (by simp) (by simp)).below (wall _ _) (Nat.le_refl _))
    (by
      have := strs_lit (w := w3.alloc (.cells #[.string ⟨#[97]⟩, .string ⟨#[98]⟩] 9)) (vs := [.string ⟨#[99]⟩]) (ls := [[99]]) 9 rfl rfl (by simp) (by simp)
      rw [World.size_alloc] at this
      exact this) (Nat.le_refl _) (by omega))
  rw [kn3_eq] at HM3
  clear hT3 hK3 HM2
  go_wp2_with fail
  (with_reducible refine HM3.out.mono ?_)
  rintro e w4 ⟨rfl, hT4, hK4⟩
  have HN := Lib.hid (in_node (T := kn3) hT4 2 (by rfl))
  rw [kn3_node, kn3_some] at HN
  have HT4 := Lib.hid hT4
  clear hT4 hK4 HM3
  go_wp2_with fail
  (with_reducible refine HN.out.mono ?_)
  rintro e w5 ⟨rfl, hb5⟩
  have HC := Lib.hid (fun w6 (hb : Below w4.heap.size w4 w6) => in_count (T := kn3) (HT4.out.grow hb))
  rw [kn3_len] at HC
  have HB5 := Lib.hid hb5
  clear hb5 HN
  go_wp2_with fail
  (with_reducible refine (HC.out _ ?_).mono ?_)
  · exact HB5.out.trans ((wall _ _).mono HB5.out.size)
  rintro e w6 ⟨rfl, rfl⟩
  go_wp2_with fail
  go_ret
  exact ⟨rfl, HT4.out.below.trans ((HB5.out.trans ((wall _ _).mono HB5.out.size)).mono HT4.out.below.size)⟩
end Go.Proofs.YtbapdoicejakhaaGreat
namespace Go.Proofs.YtbapdoicejakhaaGreat
end Go.Proofs.YtbapdoicejakhaaGreat
namespace Go.Proofs.YtbapdoicejakhaaGreat
open Go.ChangeShapes Go.WideShapes Go.ChangeAt Go.RowKit
set_option linter.unusedVariables false
set_option linter.unusedSimpArgs false

/-- A number's bytes, the highest first. -/
def beB (n : Int) : Nat → List UInt8
  | 0 => []
  | s + 1 => UInt8.ofNat ((n / 2 ^ (8 * s)).toNat % 256) :: beB n s
/-- A writer in memory: a block, and a row of its own. -/
structure WriterAt (B : Nat) (w : World) (x : Nat) (v : Value) (bs : List UInt8) : Prop where
  head : w.heap[x]? = some (.cells #[v] 147 (0, 0))
  own : w.ownsRow B 5 1 v bs.length (bs.map bv)
  low : B ≤ x
  apart : v.ownBlock ≠ some x
/-- More is written. -/
def WMore (B : Nat) (w : World) (x : Nat) (v : Value) (bs : List UInt8) (v' : Value) (w' : World) : Prop :=
  WriterAt B w' x v' bs ∧ Keeps (fun b => b = x ∨ v.ownBlock = some b) w w' ∧ ∀ b, v'.ownBlock = some b → v.ownBlock = some b ∨ w.heap.size ≤ b
def WTurn (B : Nat) (w : World) (x : Nat) (v : Value) (bs : List UInt8) (e : Ending) (w' : World) : Prop := e = .returned (.tuple #[]) ∧ ∃ v', WMore B w x v bs v' w'
section
variable {B x : Nat} {w w1 w2 : World} {v v1 v2 : Value} {bs bs1 bs2 : List UInt8}
theorem WriterAt.lt (h : WriterAt B w x v bs) : x < w.heap.size := (Array.getElem?_eq_some_iff.1 h.head).1
theorem WriterAt.cell (h : WriterAt B w x v bs) : w.cell? ⟨x, 0, none⟩ = some v := by simp [World.cell?, h.head]
theorem WriterAt.frozen (h : WriterAt B w x v bs) : w.frozen? ⟨x, 0, none⟩ = false := by simp [World.frozen?, h.head]
theorem WriterAt.kept (h : WriterAt B w x v bs) (hs : w.heap.size ≤ w1.heap.size) (hx : w1.heap[x]? = w.heap[x]?) (hv : ∀ b, v.ownBlock = some b → w1.heap[b]? = w.heap[b]?) : WriterAt B w1 x v bs :=
  ⟨hx.trans h.head, own_keep h.own fun b hb _ => hv b hb, h.low, h.apart⟩
theorem WriterAt.below (h : WriterAt B w x v bs) (hb : Below w.heap.size w w1) : WriterAt B w1 x v bs :=
  h.kept hb.size (hb.block x h.lt) fun b hb' => hb.block b (own_lt h.own b hb')
theorem WMore.refl (h : WriterAt B w x v bs) : WMore B w x v bs v w := ⟨h, Keeps.refl _ _, fun b hb => .inl hb⟩
theorem WMore.trans (h : WMore B w x v bs1 v1 w1) (k : WMore B w1 x v1 bs2 v2 w2) : WMore B w x v bs2 v2 w2 := by
  obtain ⟨h1, h2, h3⟩ := h
  obtain ⟨k1, k2, k3⟩ := k
  have hs := h2.size
  refine ⟨k1, h2.trans k2 fun b hb hb1 => ?_, fun b hb => ?_⟩
  · rcases hb1 with h4 | h4
    · exact .inl h4
    · rcases h3 b h4 with h5 | h5
      · exact .inr h5
      · omega
  · rcases k3 b hb with h4 | h4
    · exact h3 b h4
    · exact .inr (by omega)
theorem WMore.below (h : WMore B w x v bs v1 w1) (hb : Below w1.heap.size w1 w2) : WMore B w x v bs v1 w2 := by
  obtain ⟨h1, h2, h3⟩ := h
  exact ⟨h1.below hb, h2.trans (Keeps.below hb) (fun b hb' hf => by have := h2.size; omega), h3⟩
end
/-- The row that is longer is laid into the writer. -/
theorem w_store {B x : Nat} {wr wa u1 : World} {v1 v2 : Value} {bs bs' : List UInt8} (h : WriterAt B wr x v1 bs) (ha : Below wr.heap.size wr wa) (hown : u1.ownsRow B 5 1 v2 bs'.length (bs'.map bv)) (hg : wa.grownBy u1 v1.ownBlock) (hat : v2.ownBlock = v1.ownBlock ∨ v2.ownBlock = some wa.heap.size) : WMore B wr x v1 bs' v2 (u1.setCell ⟨x, 0, none⟩ v2) := by
  have hx := h.lt
  have hs1 := ha.size
  have hs2 := hg.size
  have hxb : u1.heap[x]? = some (.cells #[v1] 147 (0, 0)) := (hg.block x (by omega) (fun e => h.apart e.symm)).trans ((ha.block x hx).trans h.head)
  have hap : v2.ownBlock ≠ some x := by
    rcases hat with h1 | h1
    · rw [h1]; exact h.apart
    · rw [h1]
      intro e
      simp only [Option.some.injEq] at e
      omega
  refine ⟨⟨?_, own_keep hown fun b hb hbw => heap_set_other u1 _ _ _ (fun e => hap (by rw [hb, e])), h.low, hap⟩, ⟨hg.os.trans ha.os, hg.tape.trans ha.tape, hg.output.trans ha.output, by rw [size_set]; omega, fun b hb hn => ?_⟩, fun b hb => ?_⟩
  · simp only [World.setCell, Array.getElem?_modify, hxb]
    simp
  · have h1 : b ≠ x := fun e => hn (.inl e)
    have h2 : v1.ownBlock ≠ some b := fun e => hn (.inr e)
    exact (heap_set_other u1 _ _ _ h1).trans ((hg.block b (by omega) (fun e => h2 e.symm)).trans (ha.block b hb))
  · rcases hat with h1 | h1
    · exact .inl (h1 ▸ hb)
    · rw [h1] at hb
      cases hb
      exact .inr hs1
theorem byte_wrap {n : Int} (hn : 0 ≤ n) (k : Nat) : IntKind.u8.wrap (n / 2 ^ (8 * (k : Int)).toNat) = ((UInt8.ofNat ((n / 2 ^ (8 * k)).toNat % 256)).toNat : Int) := by
  have e1 : (8 * (k : Int)).toNat = 8 * k := by omega
  rw [e1]
  have h0 : 0 ≤ n / 2 ^ (8 * k) := Int.ediv_nonneg hn (Int.pow_nonneg (by decide))
  generalize n / 2 ^ (8 * k) = y at h0
  have h1 : (UInt8.ofNat (y.toNat % 256)).toNat = y.toNat % 256 := by simp
  rw [h1]
  simp only [IntKind.wrap, IntKind.bits, IntKind.signed]
  simp
  omega
set_option maxRecDepth 100000 in
set_option maxHeartbeats 4000000 in
theorem put_any {B x : Nat} {w : World} {v : Value} {bs : List UInt8} (h : WriterAt B w x v bs) (n : Int) (s : Nat) (hn : 0 ≤ n) (hn' : n ≤ 18446744073709551615) (hs : s ≤ 8) (hl : bs.length ≤ 100000000) :
    Calls Tryz.prog 111 #[ptr x, .int .u64 n, .int .i64 s] w (WTurn B w x v (bs ++ beB n s)) := by
  obtain ⟨i8, hi⟩ : ∃ i, Tryz.prog.info? 5 = some i ∧ i.zero = some (.int .u8 0) ∧ i.size = 1 ∧ i.bytes = 1 := info_parts (by kernel_rfl)
  have HI := Lib.hid hi
  have HW := Lib.hid h
  clear h hi
  go_enter Tryz.func111, Tryz.ntmps111
  go_wp2
  go_loopw [6] (fun kv wr => ∃ (k : Nat) (dn : List UInt8) (v1 : Value), k ≤ s ∧ kv = .int .i64 ((k : Int) - 1) ∧ dn ++ beB n k = beB n s ∧ dn.length + k = s ∧ WMore B w x v (bs ++ dn) v1 wr) (fun kv _ => ((intOf kv) + 1).toNat)
  case atStart => exact ⟨s, [], v, Nat.le_refl _, by go_num, rfl, by simp, by simpa using WMore.refl HW.out⟩
  case round =>
    obtain ⟨k, dn, v1, hk, rfl, hdn, hdl, hm⟩ := hrel
    have HM := Lib.hid hm
    have c0 := hm.1.cell
    have f0 := hm.1.frozen
    clear hm
    cases k with
    | zero =>
      have HDN := Lib.hid hdn
      have e0 : ((0 : Nat) : Int) - 1 = -1 := by omega
      rw [e0]
      clear hdn
      go_wp2_with fail
      go_end0
      refine ⟨rfl, v1, ?_⟩
      have h9 := HDN.out
      unfold beB at h9
      rw [List.append_nil] at h9
      cases s with
      | zero =>
        have : dn = [] := List.eq_nil_of_length_eq_zero (by omega)
        subst this
        exact HM.out
      | succ s =>
        rw [← show dn = beB n (s + 1) from by rw [h9]; rfl]
        exact HM.out
    | succ k =>
      have hk0 : (0 : Int) ≤ k := by omega
      have e1 : ((k + 1 : Nat) : Int) - 1 = (k : Int) := by omega
      rw [e1]
      have e2 : IntKind.i64.wrap (8 * (k : Int)) = 8 * (k : Int) := IntWalk.i64_in _ (by omega)
      have hge : decide ((0 : Int) ≤ (k : Int)) = true := by simp
      have hbw := byte_wrap hn k
      obtain ⟨b0, hb0⟩ : ∃ b0, b0 = UInt8.ofNat ((n / 2 ^ (8 * k)).toNat % 256) := ⟨_, rfl⟩
      rw [← hb0] at hbw
      have HB0 := Lib.hid hb0
      have HDN := Lib.hid hdn
      have HKP : Hid (∀ w', Below wr.heap.size wr w' → w'.cell? ⟨x, 0, none⟩ = some v1 ∧ w'.frozen? ⟨x, 0, none⟩ = false) := fun w' hb => ⟨(HM.out.1.below hb).cell, (HM.out.1.below hb).frozen⟩
      obtain ⟨N, hN⟩ : ∃ N, N = (bs ++ dn).length := ⟨_, rfl⟩
      have hN2 : N ≤ 100000008 := by rw [hN, List.length_append]; omega
      have HOW : Hid (wr.ownsRow B 5 1 v1 N ((bs ++ dn).map bv)) := by rw [hN]; exact HM.out.1.own
      have HNN := Lib.hid hN
      have hBw : B ≤ wr.heap.size := Nat.le_of_lt (Nat.lt_of_le_of_lt HM.out.1.low HM.out.1.lt)
      clear hb0 hdn hN
      go_wp2_with fail
      refine wp_region_noPanic ?_
      refine wp_region_L (last := 14) (S := (fun w' => w'.cell? ⟨x, 0, none⟩ = some v1 ∧ w'.frozen? ⟨x, 0, none⟩ = false)) (by kernel_rfl) ?_ (fun hS => ?_)
      · exact HKP.out _ (Below.refl _ _).drew
      refine wpAnyL_take (i := 0) (oi := ?oi1) (v := ?v1) ?hi1 (by kernel_rfl) (by kernel_rfl) (by kernel_rfl) (by kernel_rfl) (by kernel_rfl) ?hq1 (Or.inl ⟨?hw1, ?hy1⟩) hS ?rest1
      case hi1 => simp only [List.getElem?_toArray, List.getElem?_cons_succ, List.getElem?_cons_zero]; rfl
      case hq1 => exact fun _ _ _ h => h
      case hw1 => rfl
      case hy1 => intro w hSw; (try dsimp only at hSw); go_simp; (try with_reducible rfl)
      try simp only [Act.put, List.setIfInBounds_toArray, List.set_cons_zero, List.set_cons_succ]
      refine wpAnyL_take (i := 1) (oi := ?oi2) (v := ?v2) ?hi2 (by kernel_rfl) (by kernel_rfl) (by kernel_rfl) (by kernel_rfl) (by kernel_rfl) ?hq2 (Or.inl ⟨?hw2, ?hy2⟩) hS ?rest2
      case hi2 => simp only [List.getElem?_toArray, List.getElem?_cons_succ, List.getElem?_cons_zero]; rfl
      case hq2 => exact fun _ _ _ h => h
      case hw2 => rfl
      case hy2 => intro w hSw; (try dsimp only at hSw); go_simp; (try with_reducible rfl)
      try simp only [Act.put, List.setIfInBounds_toArray, List.set_cons_zero, List.set_cons_succ]
      refine wpAnyL_take (i := 2) (oi := ?oi3) (v := ?v3) ?hi3 (by kernel_rfl) (by kernel_rfl) (by kernel_rfl) (by kernel_rfl) (by kernel_rfl) ?hq3 (Or.inl ⟨?hw3, ?hy3⟩) hS ?rest3
      case hi3 => simp only [List.getElem?_toArray, List.getElem?_cons_succ, List.getElem?_cons_zero]; rfl
      case hq3 => exact fun _ _ _ h => h
      case hw3 => rfl
      case hy3 => intro w hSw; (try dsimp only at hSw); go_simp; (try with_reducible rfl)
      try simp only [Act.put, List.setIfInBounds_toArray, List.set_cons_zero, List.set_cons_succ]
      refine wpAnyL_take (i := 3) (oi := ?oi4) (v := ?v4) ?hi4 (by kernel_rfl) (by kernel_rfl) (by kernel_rfl) (by kernel_rfl) (by kernel_rfl) ?hq4 (Or.inl ⟨?hw4, ?hy4⟩) hS ?rest4
      case hi4 => simp only [List.getElem?_toArray, List.getElem?_cons_succ, List.getElem?_cons_zero]; rfl
      case hq4 => exact fun _ _ _ h => h
      case hw4 => rfl
      case hy4 => intro w hSw; (try dsimp only at hSw); go_simp; (try with_reducible rfl)
      try simp only [Act.put, List.setIfInBounds_toArray, List.set_cons_zero, List.set_cons_succ]
      refine wpAnyL_take (i := 4) (oi := ?oi5) (v := ?v5) ?hi5 (by kernel_rfl) (by kernel_rfl) (by kernel_rfl) (by kernel_rfl) (by kernel_rfl) ?hq5 (Or.inl ⟨?hw5, ?hy5⟩) hS ?rest5
      case hi5 => simp only [List.getElem?_toArray, List.getElem?_cons_succ, List.getElem?_cons_zero]; rfl
      case hq5 => exact fun _ _ _ h => h
      case hw5 => rfl
      case hy5 => intro w hSw; (try dsimp only at hSw); go_simp; (try with_reducible rfl)
      try simp only [Act.put, List.setIfInBounds_toArray, List.set_cons_zero, List.set_cons_succ]
      refine wpAnyL_take (i := 5) (oi := ?oi6) (v := ?v6) ?hi6 (by kernel_rfl) (by kernel_rfl) (by kernel_rfl) (by kernel_rfl) (by kernel_rfl) ?hq6 (Or.inl ⟨?hw6, ?hy6⟩) hS ?rest6
      case hi6 => simp only [List.getElem?_toArray, List.getElem?_cons_succ, List.getElem?_cons_zero]; rfl
      case hq6 => exact fun _ _ _ h => h
      case hw6 => rfl
      case hy6 => intro w hSw; (try dsimp only at hSw); go_simp; (try with_reducible rfl)
      try simp only [Act.put, List.setIfInBounds_toArray, List.set_cons_zero, List.set_cons_succ]
      refine wpAnyL_take (i := 6) (oi := ?oi7) (v := ?v7) ?hi7 (by kernel_rfl) (by kernel_rfl) (by kernel_rfl) (by kernel_rfl) (by kernel_rfl) ?hq7 (Or.inl ⟨?hw7, ?hy7⟩) hS ?rest7
      case hi7 => simp only [List.getElem?_toArray, List.getElem?_cons_succ, List.getElem?_cons_zero]; rfl
      case hq7 => exact fun _ _ _ h => h
      case hw7 => rfl
      case hy7 => intro w hSw; (try dsimp only at hSw); go_simp; (try with_reducible rfl)
      try simp only [Act.put, List.setIfInBounds_toArray, List.set_cons_zero, List.set_cons_succ]
      refine wpAnyL_take (i := 7) (oi := ?oi8) (v := ?v8) ?hi8 (by kernel_rfl) (by kernel_rfl) (by kernel_rfl) (by kernel_rfl) (by kernel_rfl) ?hq8 (Or.inl ⟨?hw8, ?hy8⟩) hS ?rest8
      case hi8 => simp only [List.getElem?_toArray, List.getElem?_cons_succ, List.getElem?_cons_zero]; rfl
      case hq8 => exact fun _ _ _ h => h
      case hw8 => rfl
      case hy8 => intro w hSw; (try dsimp only at hSw); go_simp; (try with_reducible rfl)
      try simp only [Act.put, List.setIfInBounds_toArray, List.set_cons_zero, List.set_cons_succ]
      refine wpAnyL_take (i := 8) (oi := ?oi9) (v := ?v9) ?hi9 (by kernel_rfl) (by kernel_rfl) (by kernel_rfl) (by kernel_rfl) (by kernel_rfl) ?hq9 (Or.inl ⟨?hw9, ?hy9⟩) hS ?rest9
      case hi9 => simp only [List.getElem?_toArray, List.getElem?_cons_succ, List.getElem?_cons_zero]; rfl
      case hq9 => exact fun _ _ _ h => h
      case hw9 => rfl
      case hy9 => intro w hSw; (try dsimp only at hSw); go_simp; (try with_reducible rfl)
      try simp only [Act.put, List.setIfInBounds_toArray, List.set_cons_zero, List.set_cons_succ]
      refine wpAnyL_take (i := 9) (oi := ?oi10) (v := ?v10) ?hi10 (by kernel_rfl) (by kernel_rfl) (by kernel_rfl) (by kernel_rfl) (by kernel_rfl) ?hq10 (Or.inl ⟨?hw10, ?hy10⟩) hS ?rest10
      case hi10 => simp only [List.getElem?_toArray, List.getElem?_cons_succ, List.getElem?_cons_zero]; rfl
      case hq10 => exact fun _ _ _ h => h
      case hw10 => rfl
      case hy10 => intro w hSw; (try dsimp only at hSw); go_simp; (try with_reducible rfl)
      try simp only [Act.put, List.setIfInBounds_toArray, List.set_cons_zero, List.set_cons_succ]
      refine wpAnyL_ready (rs := [10]) (by kernel_rfl) (by simp) ?_
      refine AllReadyL.cons (o := ?o11) ?ho11 (fun K hK => ?_) AllReadyL.nil
      case ho11 => simp only [List.getElem?_toArray, List.getElem?_cons_succ, List.getElem?_cons_zero]; rfl
      go_simp
      have hBA : Below wr.heap.size wr (wr.drew.alloc (.cells #[bv b0] 5)) := (Below.refl _ _).drew.alloc (Nat.le_refl _) _
      refine hK.out _ _ (fun _ => HKP.out _ hBA) (fun hS => ?_)
      replace hS := hS (by decide)
      clear hK K
      try simp only [Act.put, List.setIfInBounds_toArray, List.set_cons_zero, List.set_cons_succ]
      refine wpAnyL_ready (rs := [11]) (by kernel_rfl) (by simp) ?_
      refine AllReadyL.cons (o := ?o12) ?ho12 (fun K hK => ?_) AllReadyL.nil
      case ho12 => simp only [List.getElem?_toArray, List.getElem?_cons_succ, List.getElem?_cons_zero]; rfl
      refine step_append_row (by rfl) (.tmp 17) (.tmp 23) 51 (by rfl) B 5 i8 _ 1 Tryz.underlying51 HI.out.1 HI.out.2.1 HI.out.2.2.1 HI.out.2.2.2 rfl v1 N ((bs ++ dn).map bv) (by rfl) (own_keep HOW.out fun b hb hbw => hBA.block b hbw) (some ⟨wr.heap.size, 0, none⟩) 1 1 [bv b0] (by rfl) (one_row (w := wr.drew) (bv b0) 5) (by simp [bv, Value.oneCell']) (by unfold maxLen; omega) (by omega) (by simp; omega) ?_
      intro A1 c1 u1 hown1 hg1 _ hat1
      have hux : u1.heap[x]? = some (.cells #[v1] 147 (0, 0)) := (hg1.block x (Nat.lt_of_lt_of_le HM.out.1.lt hBA.size) (fun e => HM.out.1.apart e.symm)).trans ((hBA.block x HM.out.1.lt).trans HM.out.1.head)
      have hu : u1.cell? ⟨x, 0, none⟩ = some v1 ∧ u1.frozen? ⟨x, 0, none⟩ = false := ⟨by simp [World.cell?, hux], by simp [World.frozen?, hux]⟩
      refine hK.out _ _ (fun _ => hu) (fun hS => ?_)
      replace hS := hS (by decide)
      clear hK K
      try simp only [Act.put, List.setIfInBounds_toArray, List.set_cons_zero, List.set_cons_succ]
      refine wpAnyL_take (i := 12) (oi := ?oi13) (v := ?v13) ?hi13 (by kernel_rfl) (by kernel_rfl) (by kernel_rfl) (by kernel_rfl) (by kernel_rfl) ?hq13 (Or.inl ⟨?hw13, ?hy13⟩) hS ?rest13
      case hi13 => simp only [List.getElem?_toArray, List.getElem?_cons_succ, List.getElem?_cons_zero]; rfl
      case hq13 => exact fun _ _ _ h => h
      case hw13 => rfl
      case hy13 => intro w hSw; (try dsimp only at hSw); go_simp; (try with_reducible rfl)
      try simp only [Act.put, List.setIfInBounds_toArray, List.set_cons_zero, List.set_cons_succ]
      refine wpAnyL_take (i := 13) (oi := ?oi14) (v := ?v14) ?hi14 (by kernel_rfl) (by kernel_rfl) (by kernel_rfl) (by kernel_rfl) (by kernel_rfl) ?hq14 (Or.inl ⟨?hw14, ?hy14⟩) hS ?rest14
      case hi14 => simp only [List.getElem?_toArray, List.getElem?_cons_succ, List.getElem?_cons_zero]; rfl
      case hq14 => exact fun _ _ _ h => h
      case hw14 => rfl
      case hy14 => intro w hSw; (try dsimp only at hSw); go_simp; (try with_reducible rfl)
      try simp only [Act.put, List.setIfInBounds_toArray, List.set_cons_zero, List.set_cons_succ]
      refine wpAnyL_ready (rs := [14]) (by kernel_rfl) (by simp) ?_
      refine AllReadyL.cons (o := ?o15) ?ho15 (fun K hK => ?_) AllReadyL.nil
      case ho15 => simp only [List.getElem?_toArray, List.getElem?_cons_succ, List.getElem?_cons_zero]; rfl
      go_simp
      refine hK.out _ _ (fun h => absurd rfl h) (fun hS => ?_)
      clear hS hK K
      try simp only [Act.put, List.setIfInBounds_toArray, List.set_cons_zero, List.set_cons_succ]
      refine wpAnyL_done (by kernel_rfl) ?_ _
      refine NoPanic.normal ?_
      go_wp2
      go_roundw
      case rel =>
        refine ⟨k, dn ++ [b0], .slice A1 (N + 1) c1, by omega, by go_num, ?_, by simp; omega, HM.out.trans (w_store HM.out.1 hBA ?_ hg1 hat1)⟩
        · rw [List.append_assoc, ← HDN.out, HB0.out]
          rfl
        · have h9 : (bs ++ (dn ++ [b0])).length = N + 1 := by rw [HNN.out]; simp; omega
          rw [h9]
          simpa using hown1
      case measure => simp [intOf]
end Go.Proofs.YtbapdoicejakhaaGreat
