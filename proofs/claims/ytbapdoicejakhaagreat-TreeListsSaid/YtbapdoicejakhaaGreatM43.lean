/- Arguments opened: lists of permafrostlaw11.Ask. permafrostlaw11.played. Literal slices of texts. permafrostlaw11.known. What the laws over 'played' lean on. TreeIds, plainly. TreeLists, plainly; Look of a row of one's own. -/
import Derived.Test.YtbapdoicejakhaaGreatM26
import Derived.Test.YtbapdoicejakhaaGreatM42
import Derived.Test.YtbapdoicejakhaaGreatM16
import Derived.Test.YtbapdoicejakhaaGreatM12
import Derived.Test.YtbapdoicejakhaaGreatM25
import Derived.Test.YtbapdoicejakhaaGreatM41
namespace Go.Proofs.YtbapdoicejakhaaGreat
open Go.Joins Go.ChangeShapes Go.WideShapes Go.ChangeAt Go.RowKit Go.Deep
set_option linter.unusedVariables false
/-- The nine cells of an Ask. -/
structure AskTAt (W : World) (g off : Nat) (x : AskT) (ba : Option Addr) (bn bc : Nat) : Prop where
  cells : W.cell? ⟨g, off, none⟩ = some (.int .i64 x.kind) ∧ W.cell? ⟨g, off + 1, none⟩ = some (.int .i64 x.P) ∧ W.cell? ⟨g, off + 2, none⟩ = some (.int .i64 x.to_) ∧ W.cell? ⟨g, off + 3, none⟩ = some (.bool x.dir) ∧ W.cell? ⟨g, off + 4, none⟩ = some (.int .i64 x.id) ∧ W.cell? ⟨g, off + 5, none⟩ = some (.int .i64 x.at_) ∧ W.cell? ⟨g, off + 6, none⟩ = some (.int .i64 x.n) ∧ W.cell? ⟨g, off + 7, none⟩ = some (.slice ba bn bc) ∧ W.cell? ⟨g, off + 8, none⟩ = some (.int .u64 x.til)
  ok : x.Ok
  cap : bn ≤ bc
  row : RowAt (fun b => b < W.heap.size) W ba bn (x.b.map bv)
  reach : bn ≤ 140737488351232
def AsksT (W : World) (a : Option Addr) (len : Nat) : Prop :=
  len ≤ maxLen ∧ (0 < len → ∃ b off, a = some ⟨b, off, none⟩ ∧ b < W.heap.size ∧ ∀ k, k < len → ∃ x ba bn bc, AskTAt W b (off + k * 9) x ba bn bc)
theorem u64_of_wf {z : Int} (h : (Lit.int .u64 z).wf = true) : 0 ≤ z ∧ z ≤ 18446744073709551615 := by
  simp [Lit.wf, IntKind.min, IntKind.max, IntKind.signed, IntKind.bits] at h
  omega
section
variable {H : Type} {enc : TypeId × Value → H} {W : World}
theorem open_asks11 {fuel : Nat} {v : Value} {x : DataW H × List MemPlace} (h : DataW.trod enc Tryz.prog W 0 (fun _ => true) true fuel 22 [v] = some x) (l : ∀ p ∈ x.2, p.block < W.heap.size) (hw : ∀ n ∈ x.1.weights Tryz.prog 22, n ≤ reachBytes) :
    ∃ a len cap, v = .slice a len cap ∧ len ≤ cap ∧ AsksT W a len := by
  rcases open_slice_fields Tryz.underlying22 Tryz.underlying66 (by kernel_rfl) (by kernel_rfl) h with ⟨hcs, hx⟩ | ⟨a, len, cap, m, D, Pl, hcs, _, hl, hm, hmm, hx, hi⟩
  · simp only [List.cons.injEq, and_true] at hcs
    subst hcs
    exact ⟨none, 0, 0, rfl, Nat.le_refl _, by simp, fun h => by omega⟩
  · simp only [List.cons.injEq, and_true] at hcs
    subst hcs
    subst hx
    simp only [if_true] at hmm
    subst hmm
    refine ⟨some a, len, m, rfl, hl, by omega, fun h0 => ?_⟩
    have hsub : ∀ (i : Nat) (ys : List (DataW H × List MemPlace)) (j : Nat) (y : DataW H × List MemPlace), i < m → Pl i = ys.flatMap (·.2) → ys[j]? = some y → ∀ p ∈ y.2, p.block < W.heap.size := by
      intro i ys j y hi' hp hy p hpy
      refine l p (List.mem_append_right _ (List.mem_flatMap.2 ⟨i, List.mem_range.2 hi', ?_⟩))
      rw [hp]
      exact List.mem_flatMap.2 ⟨y, List.mem_of_getElem? hy, hpy⟩
    obtain ⟨b, off, spot⟩ := a
    have hspot : spot = none := by
      obtain ⟨ys, n, _, _, _, hf⟩ := hi 0 (by omega)
      obtain ⟨v, y, hc, _⟩ := hf 0 _ rfl
      simpa [Addr.add] using World.cell?_spot hc
    subst hspot
    have hb : b < W.heap.size := l (.cell b off) (List.mem_append_left _ (MemPlace.mem_row.2 ⟨0, by simp; omega, by simp⟩))
    refine ⟨b, off, rfl, hb, fun k hk => ?_⟩
    obtain ⟨ys, n, hD, hP, hyl, hf⟩ := hi k (by omega)
    obtain ⟨v0, y0, c0, e0, t0⟩ := hf 0 _ rfl
    obtain ⟨v1, y1, c1, e1, t1⟩ := hf 1 _ rfl
    obtain ⟨v2, y2, c2, e2, t2⟩ := hf 2 _ rfl
    obtain ⟨v3, y3, c3, e3, t3⟩ := hf 3 _ rfl
    obtain ⟨v4, y4, c4, e4, t4⟩ := hf 4 _ rfl
    obtain ⟨v5, y5, c5, e5, t5⟩ := hf 5 _ rfl
    obtain ⟨v6, y6, c6, e6, t6⟩ := hf 6 _ rfl
    obtain ⟨v7, y7, c7, e7, t7⟩ := hf 7 _ rfl
    obtain ⟨v8, y8, c8, e8, t8⟩ := hf 8 _ rfl
    obtain ⟨z0, f0, _, g0⟩ := DataW.trod_int Tryz.underlying3 t0
    obtain ⟨z1, f1, _, g1⟩ := DataW.trod_int Tryz.underlying3 t1
    obtain ⟨z2, f2, _, g2⟩ := DataW.trod_int Tryz.underlying3 t2
    obtain ⟨z3, f3, _⟩ := DataW.trod_bool Tryz.underlying4 t3
    obtain ⟨z4, f4, _, g4⟩ := DataW.trod_int Tryz.underlying3 t4
    obtain ⟨z5, f5, _, g5⟩ := DataW.trod_int Tryz.underlying3 t5
    obtain ⟨z6, f6, _, g6⟩ := DataW.trod_int Tryz.underlying3 t6
    obtain ⟨a7, n7, k7, bs, rfl, q7, r7, r7w⟩ := open_bytesW t7 (hsub k ys 7 y7 (by omega) hP e7) (fun n hn => hw n (weights_elem Tryz.underlying22 (d := D k) (List.mem_map.2 ⟨k, List.mem_range.2 hk, rfl⟩) (by
      rw [hD]
      exact weights_part Tryz.underlying66 (j := 7) rfl (d := y7.1) (by rw [List.getElem?_map, e7]; rfl) hn)))
    obtain ⟨z8, f8, _, g8⟩ := DataW.trod_int Tryz.underlying27 t8
    simp only [List.cons.injEq, and_true] at f0 f1 f2 f3 f4 f5 f6 f8
    subst f0 f1 f2 f3 f4 f5 f6 f8
    rw [add_plain] at c0 c1 c2 c3 c4 c5 c6 c7 c8
    refine ⟨⟨z0, z1, z2, z3, z4, z5, z6, bs, z8⟩, a7, n7, k7, ⟨⟨c0, ?_, ?_, ?_, ?_, ?_, ?_, ?_, ?_⟩, ⟨g0, g1, g2, g4, g5, g6, u64_of_wf g8⟩, q7, r7, r7w⟩⟩
    · rw [Nat.add_assoc]; exact c1
    · rw [Nat.add_assoc]; exact c2
    · rw [Nat.add_assoc]; exact c3
    · rw [Nat.add_assoc]; exact c4
    · rw [Nat.add_assoc]; exact c5
    · rw [Nat.add_assoc]; exact c6
    · rw [Nat.add_assoc]; exact c7
    · rw [Nat.add_assoc]; exact c8
end
/-- A new reference. -/
def NewRef (w : World) (e : Ending) (w' : World) : Prop := ∃ r, e = .returned (ptr r) ∧ RefAt (fun x => w.heap.size ≤ x ∧ x < w'.heap.size) w' r newM ∧ Below w.heap.size w w'
theorem three_new (w : World) (o1 o2 o3 : Obj) : (((w.alloc o1).alloc o2).alloc o3).heap[w.heap.size]? = some o1 ∧ (((w.alloc o1).alloc o2).alloc o3).heap[w.heap.size + 1]? = some o2 ∧ (((w.alloc o1).alloc o2).alloc o3).heap[w.heap.size + 2]? = some o3 := by
  have h := allocAll_get [o1, o2, o3] w
  exact ⟨h 0 o1 rfl, h 1 o2 rfl, h 2 o3 rfl⟩
theorem rnew_any (w : World) : Calls Tryz.prog 21 #[] w (NewRef w) := by
  go_enter Tryz.func21, Tryz.ntmps21
  go_wp2
  go_ret
  obtain ⟨h0, h1, h2⟩ := three_new w (.cells #[.int .i64 0, .int .i64 2, .int .i64 1, .int .i64 0, .int .u64 0, .bool true] 29) (.cells #[.slice none 0 0] 51) (.cells #[.slice (some ⟨w.heap.size, 0, none⟩) 1 1, .slice (some ⟨w.heap.size + 1, 0, none⟩) 1 1, .slice none 0 0] 100)
  refine ⟨w.heap.size + 2, rfl, ⟨⟨some ⟨w.heap.size, 0, none⟩, 1, some ⟨w.heap.size + 1, 0, none⟩, 1, none, 0, h2, Nat.le_refl _, Nat.le_refl _, Nat.le_refl _, ?_, ⟨[.slice none 0 0], ?_, ?_⟩, RowAt.nil _ _ _, .inl ⟨rfl, rfl⟩⟩, ?_, ?_⟩, ?_⟩
  · exact (row_blk (vs := nodeC (0, freshM 2)) h0 (by simp [nodeC, maxLen])).mono fun b hb => by subst hb; exact ⟨⟨Nat.le_refl _, by simp; omega⟩, by omega⟩
  · exact (row_blk (vs := [.slice none 0 0]) h1 (by simp [maxLen])).mono fun b hb => by subst hb; exact ⟨⟨by omega, by simp⟩, by omega⟩
  · intro i b hb
    cases i with
    | zero =>
      have : b = [] := (Option.some.inj hb).symm
      subst this
      exact ⟨none, 0, rfl, ⟨Nat.le_refl _, by simp [maxLen]⟩, RowAt.nil _ _ _⟩
    | succ i => simp [newM] at hb
  · exact ⟨by omega, by simp⟩
  · exact fun b hb => hb.2
  · exact (((Below.refl _ _).alloc (Nat.le_refl _) _).alloc (by simp) _).alloc (by simp; omega) _
end Go.Proofs.YtbapdoicejakhaaGreat
namespace Go.Proofs.YtbapdoicejakhaaGreat
open Go.ChangeShapes Go.WideShapes Go.ChangeAt Go.RowKit
set_option linter.unusedVariables false
set_option linter.unusedSimpArgs false

def PlayedT (W w : World) (t r : Nat) (wx : World) : Prop := ∃ T, BothT W (fun x => x < w.heap.size) wx t r T ∧ Below w.heap.size w wx
def Played (W w : World) (e : Ending) (w' : World) : Prop := ∃ t r, e = .returned (.tuple #[ptr t, ptr r]) ∧ PlayedT W w t r w'
theorem below_of {W w w1 w2 : World} (hw : Below W.heap.size W w) (h1 : Below w.heap.size w w1) (h2 : Below W.heap.size W w2) (hk : ∀ b, b < w.heap.size → w2.heap[b]? = w1.heap[b]?) (hs : w1.heap.size ≤ w2.heap.size) : Below w.heap.size w w2 :=
  ⟨h2.os.trans hw.os.symm, h2.tape.trans hw.tape.symm, h2.output.trans hw.output.symm, Nat.le_trans h1.size hs, fun b hb => (hk b hb).trans (h1.block b hb)⟩
set_option maxRecDepth 100000 in
set_option maxHeartbeats 8000000 in
theorem played_any {W w : World} (a : Option Addr) (len cap : Nat) (hA : AsksT W a len) (hB : Below W.heap.size W w) : Calls Tryz.prog 13 #[.slice a len cap] w (Played W w) := by
  have hlm := hA.1
  unfold maxLen at hlm
  have HA := Lib.hid hA
  have HBw := Lib.hid hB
  have hWw := hB.size
  clear hA hB
  go_enter Tryz.func13, Tryz.ntmps13
  go_wp2_with fail
  (with_reducible refine (in_new W w HBw.out).mono ?_)
  rintro e w1 ⟨t, rfl, hT1, hb1⟩
  have HT1 := Lib.hid hT1
  have HB1 := Lib.hid hb1
  clear hT1 hb1
  go_wp2_with fail
  (with_reducible refine (rnew_any w1).mono ?_)
  rintro e w2 ⟨r, rfl, hR, hb2⟩
  have hs1 := HB1.out.size
  have hs2 := hb2.size
  have hBP : BothP W (fun x => x < w.heap.size) (fun x => x < w.heap.size ∨ (w1.heap.size ≤ x ∧ x < w2.heap.size)) (fun x => w1.heap.size ≤ x ∧ x < w2.heap.size) w2 t r newM := by
    refine ⟨HT1.out.shield hb2, hR, fun x hx => ⟨.inr hx, by have := hx.1; omega⟩, fun x hx => ⟨.inl hx, fun hf => by have := hf.1; omega⟩, Oky.new⟩
  have HST : Hid (PlayedT W w t r w2) := ⟨newM, ⟨_, _, hBP⟩, HB1.out.trans (hb2.mono hs1)⟩
  clear hR hb2 hBP
  go_upto_block 0 with (fail)
  go_cut [6] from 9 to 29 (fun i wx => PlayedT W w t r wx)
  case first =>
    go_wp2_with fail
    go_loopw [6] (fun i wr => ∃ k : Nat, i = .int .i64 k ∧ k ≤ 40 ∧ PlayedT W w t r wr) (fun i _ => 40 - (intOf i).toNat)
    case atStart => exact ⟨0, rfl, by omega, HST.out⟩
    case round =>
      obtain ⟨k, rfl, hk40, hP⟩ := hrel
      have HP := Lib.hid hP
      clear hP
      by_cases hlt : k < len
      · have hd1 : decide (k < len) = true := by simpa using hlt
        by_cases h40 : k < 40
        · obtain ⟨g, off, rfl, hgw, hAk⟩ := HA.out.2 (by omega)
          obtain ⟨x, ba, bn, bc, hx⟩ := hAk k hlt
          obtain ⟨T, ⟨P, F, hBP⟩, hbw⟩ := HP.out
          have hbW := hBP.tree.below
          obtain ⟨d0, d1, d2, d3, d4, d5, d6, d7, d8⟩ := hx.cells
          have c0 := (hbW.cell (p := ⟨g, off + k * 9, none⟩) hgw).trans d0
          have c1 := (hbW.cell (p := ⟨g, off + k * 9 + 1, none⟩) hgw).trans d1
          have c2 := (hbW.cell (p := ⟨g, off + k * 9 + 2, none⟩) hgw).trans d2
          have c3 := (hbW.cell (p := ⟨g, off + k * 9 + 3, none⟩) hgw).trans d3
          have c4 := (hbW.cell (p := ⟨g, off + k * 9 + 4, none⟩) hgw).trans d4
          have c5 := (hbW.cell (p := ⟨g, off + k * 9 + 5, none⟩) hgw).trans d5
          have c6 := (hbW.cell (p := ⟨g, off + k * 9 + 6, none⟩) hgw).trans d6
          have c7 := (hbW.cell (p := ⟨g, off + k * 9 + 7, none⟩) hgw).trans d7
          have c8 := (hbW.cell (p := ⟨g, off + k * 9 + 8, none⟩) hgw).trans d8
          have HDO := Lib.hid (do11_any x ba bn bc hBP hx.ok (hx.row.below hbW (Nat.le_refl _)) hx.cap hx.reach)
          have HBWR := Lib.hid hbw
          unfold askTV at HDO
          have i0 : (0 : Int) ≤ (k : Int) := by omega
          have i1 : (k : Int) < (len : Int) := by omega
          have i2 : (k : Int) < 40 := by omega
          have hd2 : decide ((k : Int) < 40) = true := by simpa using i2
          clear hAk hx hBP hbW d0 d1 d2 d3 d4 d5 d6 d7 d8 hbw
          go_wp2_with fail
          (with_reducible refine HDO.out.mono ?_)
          rintro e w3 ⟨rfl, T', hBT, hkq, hsz, hbW3⟩
          have HNX : Hid (PlayedT W w t r w3) := ⟨T', hBT, below_of HBw.out HBWR.out hbW3 hkq hsz⟩
          clear hBT hkq hbW3
          go_wp2_with fail
          go_roundw
          case rel => exact ⟨k + 1, by go_num, by omega, HNX.out⟩
          case measure => simp [intOf]; omega
        · have hd2 : decide ((k : Int) < 40) = false := by simp; omega
          go_wp2_with fail
          go_meet
          exact HP.out
      · have hd1 : decide (k < len) = false := by simpa using hlt
        go_wp2_with fail
        go_meet
        exact HP.out
  case rest =>
    go_wp2_with fail
    go_ret2
    exact ⟨t, r, rfl, hcut⟩
end Go.Proofs.YtbapdoicejakhaaGreat
namespace Go.Proofs.YtbapdoicejakhaaGreat
open Go.ChangeShapes Go.WideShapes Go.ChangeAt Go.RowKit
set_option linter.unusedVariables false

theorem strs_lit {w : World} {vs : List Value} {ls : List Nm} {n : Nat} (t : TypeId) (h : vs = (ls.map strOf).map Value.string) (hn : vs.length = n) (hm : n ≤ 1000) (hs : ∀ l ∈ ls, l.length ≤ 1000) : StrsAt (fun b => b = w.heap.size) (w.alloc (.cells vs.toArray t)) (some ⟨w.heap.size, 0, none⟩) n (ls.map strOf) := by
  subst hn
  refine ⟨?_, fun s hs' => ?_⟩
  · rw [← h]
    exact new_row vs t (by unfold maxLen; omega)
  · obtain ⟨l, hl, rfl⟩ := List.mem_map.1 hs'
    rw [strOf_size]
    have := hs l hl
    unfold maxLen; omega

end Go.Proofs.YtbapdoicejakhaaGreat
namespace Go.Proofs.YtbapdoicejakhaaGreat
open Go.ChangeShapes Go.WideShapes Go.ChangeAt Go.RowKit
set_option linter.unusedVariables false
set_option linter.unusedSimpArgs false

def kn1 : TrM := (makeM newM [[97]] 2).2
def kn2 : TrM := (makeM kn1 [[97], [98]] 1).2
def kn3 : TrM := (linkM kn2 [[97], [98]] [[99]]).2
theorem kn1_eq : (makeM newM [[97]] 2).1 = (1, 0) := by kernel_rfl
theorem kn2_eq : (makeM kn1 [[97], [98]] 1).1 = (2, 0) := by kernel_rfl
theorem kn3_eq : (linkM kn2 [[97], [98]] [[99]]).1 = 0 := by kernel_rfl
theorem kn3_node : nodeM kn3 2 = .agg #[.int .i64 2, .int .i64 1, .int .i64 2, .int .i64 0, .int .u64 0, .bool false] := by kernel_rfl
theorem kn3_some : (aget 2 kn3).isSome = true := by kernel_rfl
theorem kn3_len : kn3.length = 3 := by kernel_rfl
set_option maxRecDepth 100000 in
set_option maxHeartbeats 4000000 in
theorem known11_any (w : World) : Calls Tryz.prog 17 #[] w fun e w' => e = .returned (.bool true) ∧ Below w.heap.size w w' := by
  go_enter Tryz.func17, Tryz.ntmps17
  go_wp2_with fail
  (with_reducible refine (in_new w w (Below.refl _ _)).mono ?_)
  rintro e w1 ⟨p, rfl, hT1, hb1⟩
  have HM1 := Lib.hid (in_make (hT1.grow (wall w1 (.cells #[.string ⟨#[97]⟩] 9))) (some ⟨w1.heap.size, 0, none⟩) 1 1 [[97]] 2 (strs_lit (w := w1) (vs := [.string ⟨#[97]⟩]) 9 rfl rfl (by simp) (by simp)) (Nat.le_refl _) (by omega))
  rw [kn1_eq] at HM1
  clear hT1 hb1
  go_wp2_with fail
  (with_reducible refine HM1.out.mono ?_)
  rintro e w2 ⟨rfl, hT2, hK2⟩
  have HM2 := Lib.hid (in_make (T := kn1) (hT2.grow (wall w2 (.cells #[.string ⟨#[97]⟩, .string ⟨#[98]⟩] 9))) (some ⟨w2.heap.size, 0, none⟩) 2 2 [[97], [98]] 1 (strs_lit (w := w2) (vs := [.string ⟨#[97]⟩, .string ⟨#[98]⟩]) 9 rfl rfl (by simp) (by simp)) (Nat.le_refl _) (by omega))
  rw [kn2_eq] at HM2
  clear hT2 hK2 HM1
  go_wp2_with fail
  (with_reducible refine HM2.out.mono ?_)
  rintro e w3 ⟨rfl, hT3, hK3⟩
  have HM3 := Lib.hid (in_link (T := kn2) (hT3.grow ((wall w3 (.cells #[.string ⟨#[97]⟩, .string ⟨#[98]⟩] 9)).alloc (by simp) (.cells #[.string ⟨#[99]⟩] 9))) (some ⟨w3.heap.size, 0, none⟩) 2 2 [[97], [98]] (some ⟨w3.heap.size + 1, 0, none⟩) 1 1 [[99]]
    ((strs_lit (w := w3) (vs := [.string ⟨#[97]⟩, .string ⟨#[98]⟩]) 9 rfl rfl (by simp) (by simp)).below (wall _ _) (Nat.le_refl _))
    (by
      have := strs_lit (w := w3.alloc (.cells #[.string ⟨#[97]⟩, .string ⟨#[98]⟩] 9)) (vs := [.string ⟨#[99]⟩]) (ls := [[99]]) 9 rfl rfl (by simp) (by simp)
      rw [World.size_alloc] at this
      exact this) (Nat.le_refl _) (by omega))
  rw [kn3_eq] at HM3
  clear hT3 hK3 HM2
  go_wp2_with fail
  (with_reducible refine HM3.out.mono ?_)
  rintro e w4 ⟨rfl, hT4, hK4⟩
  have HN := Lib.hid (in_node (T := kn3) hT4 2 (by rfl))
  rw [kn3_node, kn3_some] at HN
  have HT4 := Lib.hid hT4
  clear hT4 hK4 HM3
  go_wp2_with fail
  (with_reducible refine HN.out.mono ?_)
  rintro e w5 ⟨rfl, hb5⟩
  have HC := Lib.hid (fun w6 (hb : Below w4.heap.size w4 w6) => in_count (T := kn3) (HT4.out.grow hb))
  rw [kn3_len] at HC
  have HB5 := Lib.hid hb5
  clear hb5 HN
  go_wp2_with fail
  (with_reducible refine (HC.out _ ?_).mono ?_)
  · exact HB5.out.trans ((wall _ _).mono HB5.out.size)
  rintro e w6 ⟨rfl, rfl⟩
  go_wp2_with fail
  go_ret
  exact ⟨rfl, HT4.out.below.trans ((HB5.out.trans ((wall _ _).mono HB5.out.size)).mono HT4.out.below.size)⟩
end Go.Proofs.YtbapdoicejakhaaGreat
namespace Go.Proofs.YtbapdoicejakhaaGreat
end Go.Proofs.YtbapdoicejakhaaGreat
namespace Go.Proofs.YtbapdoicejakhaaGreat
open Go.ChangeShapes Go.WideShapes Go.ChangeAt Go.RowKit
set_option linter.unusedVariables false
set_option linter.unusedSimpArgs false

def nmNew : Nm := [110, 101, 119]
def nmOther : Nm := [111, 116, 104, 101, 114]
theorem place_one {T : TrM} (hT : OkM T) (n : Nm) : placeM T [n] = (0, n, 0) := by
  unfold placeM
  rw [if_neg (by simp)]
  have e1 : ([n] : List Nm).dropLast = [] := rfl
  have e2 : lookM T 0 [] = (0, 0) := rfl
  rw [e1, e2, if_neg (by simp), if_pos hT.root]
  rfl
theorem short_none {T : TrM} (hS : Short T) {n : Nm} (hn : 2 ≤ n.length) (d : Int) : aget n (namesM T d) = none := by
  rw [aget_none]
  intro e he hen
  unfold namesM at he
  cases hx : aget d T with
  | none => rw [hx] at he; cases he
  | some x =>
    rw [hx] at he
    have := hS _ (aget_mem hx) e he
    rw [hen] at this
    omega
theorem mk_one {T : TrM} (hO : Oky T) {n : Nm} (hn : 2 ≤ n.length) (hf : fineL [n] = 0) {kind : Int} (hk : kind = 1 ∨ kind = 2) : makeE T [n] kind = if 64 ≤ T.length then 4 else 0 := by
  unfold makeE
  rw [hf, if_neg (by simp), if_neg (fun h => h hk), place_one hO.1.1, if_neg (by simp)]
  simp only
  rw [short_none hO.2 hn, if_neg (by simp)]
/-- Behind the first. -/
def ids1 (T : TrM) (f : Int) : TrM := setName (aput ilt f (freshM 2) T) 0 nmNew f
section
variable {T : TrM} {f : Int}
theorem ids1_root (hO : Oky T) (hf : aget f T = none) : ∃ x, aget 0 T = some x ∧ x.kind = 2 ∧ aget 0 (ids1 T f) = some { x with names := aput bytesBefore nmNew f x.names } ∧ aget nmNew x.names = none ∧ f ≠ 0 := by
  obtain ⟨x, hx, hk⟩ := kindM_some hO.1.1.root
  have h0 : f ≠ 0 := fun e => by rw [e, hx] at hf; cases hf
  refine ⟨x, hx, hk, ?_, ?_, h0⟩
  · unfold ids1 setName
    rw [aget_amod, if_pos rfl, aget_aput, if_neg (Ne.symm h0), hx]
    rfl
  · have := short_none (n := nmNew) hO.2 (by decide) 0
    rwa [namesM_of hx] at this
theorem ids1_new (hO : Oky T) (hf : aget f T = none) : aget f (ids1 T f) = some (freshM 2) := by
  obtain ⟨x, hx, _, _, _, h0⟩ := ids1_root hO hf
  unfold ids1 setName
  rw [aget_amod, if_neg h0, aget_aput, if_pos rfl]
theorem ids1_len (hf : aget f T = none) : (ids1 T f).length = T.length + 1 := by
  unfold ids1 setName
  rw [amod_length, length_aput _ hf]
theorem ids_first (hO : Oky T) (h : T.length < 64) {f : Nat} (hf : freeM T = f) : makeM T [nmNew] 2 = (((f : Int), 0), ids1 T f) := by
  have he : makeE T [nmNew] 2 = 0 := by
    rw [mk_one hO (by decide) (by decide) (.inr rfl)]
    exact if_neg (by omega)
  unfold makeM makeOk
  rw [he, if_pos rfl, place_one hO.1.1, hf]
  rfl
theorem ids_again (hO : Oky T) (hO1 : OkM (ids1 T f)) (hf : aget f T = none) : makeM (ids1 T f) [nmNew] 1 = ((0, 21), ids1 T f) := by
  obtain ⟨x, hx, hk, h1, hn, h0⟩ := ids1_root hO hf
  have he : makeE (ids1 T f) [nmNew] 1 = 21 := by
    unfold makeE
    rw [show fineL [nmNew] = 0 by decide, if_neg (by simp), if_neg (by simp), place_one hO1, if_neg (by simp)]
    simp only
    rw [namesM_of h1]
    simp only
    rw [aget_aput, if_pos rfl, if_pos (by rfl)]
  unfold makeM
  rw [he, if_neg (by simp)]
theorem ids_back (hO : Oky T) (hO1 : OkM (ids1 T f)) (hf : aget f T = none) : rmdirM (ids1 T f) [nmNew] = (0, T) := by
  obtain ⟨x, hx, hk, h1, hn, h0⟩ := ids1_root hO hf
  have hnew := ids1_new hO hf
  have hlk : lookM (ids1 T f) 0 [nmNew] = (f, 0) := by
    unfold lookM
    rw [h1]
    simp only
    rw [if_pos hk, aget_aput, if_pos rfl]
    rfl
  have hle : lookE (ids1 T f) [nmNew] = (f, 0) := by unfold lookE; rw [show fineL [nmNew] = 0 by decide, if_neg (by simp), hlk]
  have he : rmdirE (ids1 T f) [nmNew] = 0 := by
    unfold rmdirE
    rw [hle, if_neg (by simp), hlk, kindM_of hnew, namesM_of hnew]
    simp [freshM, h0]
  unfold rmdirM rmdirOk
  rw [he, if_pos rfl, hlk, place_one hO1]
  refine Prod.ext rfl ?_
  simp only
  refine asorted_ext iltLaws ((amod_sorted _ _ hO1.sorted).adel _) hO.1.1.sorted fun k => ?_
  rw [aget_adel]
  by_cases hkf : k = f
  · rw [if_pos hkf, hkf, hf]
  · rw [if_neg hkf]
    unfold cutName
    rw [aget_amod]
    by_cases hk0 : k = 0
    · rw [if_pos hk0, hk0, h1, hx]
      simp only [Option.map_some, Option.some.injEq]
      have hs := (hO.1.1.each 0 x hx).sorted
      have : adel nmNew (aput bytesBefore nmNew f x.names) = x.names := by
        refine asorted_ext bbLt ((hs.aput bbLt _ _).adel _) hs fun m => ?_
        rw [aget_adel]
        by_cases hm : m = nmNew
        · rw [if_pos hm, hm, hn]
        · rw [if_neg hm, aget_aput, if_neg hm]
      rw [this]
    · rw [if_neg hk0]
      unfold ids1 setName
      rw [aget_amod, if_neg hk0, aget_aput, if_neg hkf]
theorem ids_other (hO : Oky T) (h : T.length < 64) {f : Nat} (hf : freeM T = f) {kind : Int} (hk : kind = 1 ∨ kind = 2) : (makeM T [nmOther] kind).1 = ((f : Int), 0) := by
  have he : makeE T [nmOther] kind = 0 := by
    rw [mk_one hO (by decide) (by decide) hk]
    exact if_neg (by omega)
  unfold makeM
  rw [he, if_pos rfl, hf]
theorem ids_full (hO : Oky T) (h : 64 ≤ T.length) : makeM T [nmNew] 2 = ((0, 4), T) := by
  have he : makeE T [nmNew] 2 = 4 := by
    rw [mk_one hO (by decide) (by decide) (.inr rfl)]
    exact if_pos h
  unfold makeM
  rw [he, if_neg (by simp)]
end
end Go.Proofs.YtbapdoicejakhaaGreat
namespace Go.Proofs.YtbapdoicejakhaaGreat
open Go.ChangeShapes Go.WideShapes Go.ChangeAt Go.RowKit
set_option linter.unusedVariables false
set_option linter.unusedSimpArgs false

def nmNone : Nm := [110, 111, 110, 101, 45, 115, 117, 99, 104]
section
variable {T : TrM} {id : Int} {x : ItM}
theorem list_dir (hx : aget id T = some x) (hk : x.kind = 2) : listM T id = (x.names.map (·.1), 0) := by
  unfold listM
  rw [hx]
  exact if_pos hk
theorem list_file (hx : aget id T = some x) (hk : ¬ x.kind = 2) : listM T id = ([], 23) := by
  unfold listM
  rw [hx]
  exact if_neg hk
theorem list_none (hx : aget id T = none) : listM T id = ([], 20) := by
  unfold listM
  rw [hx]
theorem sole_name (hO : Okay T) (hx : aget id T = some x) (hk : x.kind = 2) : ∃ q, allP T id = [q] ∧ lookM T 0 q = (id, 0) ∧ Small q ∧ q.length ≤ 8 := by
  have h1 := allP_links hO hx
  rw [((hO.1.each id x hx).dir hk).1] at h1
  have h2 : (allP T id).length = 1 := by omega
  obtain ⟨q, hq⟩ := List.length_eq_one_iff.1 h2
  have hm : q ∈ allP T id := by rw [hq]; simp
  have hl := (mem_allP hO).1 hm
  exact ⟨q, hq, hl, allP_small hO hm, (look_fine hO hl).1⟩
theorem look_name (hO : Okay T) (hx : aget id T = some x) (hk : x.kind = 2) {q : List Nm} (hq : lookM T 0 q = (id, 0)) {e : Nm × Int} (he : e ∈ x.names) : lookE T (q ++ [e.1]) = (e.2, 0) := by
  have h1 : lookM T 0 (q ++ [e.1]) = (e.2, 0) := by
    rw [lookM_append, hq, if_pos rfl]
    unfold lookM
    rw [hx]
    simp only
    rw [if_pos hk, aget_of_mem bbLt (hO.1.each id x hx).sorted he]
    rfl
  exact (look_fine hO h1).2.2.2
theorem look_nomore (hO : Oky T) (hx : aget id T = some x) (hk : x.kind = 2) {q : List Nm} (hq : lookM T 0 q = (id, 0)) (hl : q.length < 8) : (lookE T (q ++ [nmNone])).2 = 20 := by
  obtain ⟨_, hg, _, _⟩ := look_fine hO.1 hq
  have hf : fineL (q ++ [nmNone]) = 0 := by
    unfold fineL
    have ha : (q ++ [nmNone]).any (fun x => !goodL x) = false := by
      rw [List.any_eq_false]
      intro y hy
      rcases List.mem_append.1 hy with h1 | h1
      · rw [hg y h1]; decide
      · obtain rfl : y = nmNone := by simpa using h1
        decide
    rw [ha]
    simp only [Bool.false_eq_true, if_false]
    rw [if_neg (by simp; omega)]
  unfold lookE
  rw [hf, if_neg (by simp), lookM_append, hq, if_pos rfl]
  have hn := short_none (n := nmNone) hO.2 (by decide) id
  rw [namesM_of hx] at hn
  unfold lookM
  rw [hx]
  simp only
  rw [if_pos hk, hn]
theorem names_rise (hO : Okay T) (hx : aget id T = some x) {i : Nat} {a b : Nm} (ha : (x.names.map (·.1))[i]? = some a) (hb : (x.names.map (·.1))[i + 1]? = some b) : Op.bytesLess (strOf a).toList (strOf b).toList = true := by
  rw [strOf_list, strOf_list, less_is]
  rw [List.getElem?_map] at ha hb
  cases h1 : x.names[i]? with
  | none => rw [h1] at ha; cases ha
  | some e1 =>
    cases h2 : x.names[i + 1]? with
    | none => rw [h2] at hb; cases hb
    | some e2 =>
      rw [h1] at ha
      rw [h2] at hb
      obtain rfl : e1.1 = a := by simpa using ha
      obtain rfl : e2.1 = b := by simpa using hb
      have hs := (hO.1.each id x hx).sorted
      obtain ⟨hi, e3⟩ := List.getElem?_eq_some_iff.1 h1
      obtain ⟨hj, e4⟩ := List.getElem?_eq_some_iff.1 h2
      have := List.pairwise_iff_getElem.1 hs i (i + 1) hi hj (by omega)
      rw [e3, e4] at this
      exact this
end
/-- Look, of a row of one's own. -/
theorem look_own {W w : World} {P : Nat → Prop} {p : Nat} {T : TrM} (h : TreeIn W P w p T) {B : Nat} {A : Option Addr} {n c : Nat} {q : List Nm} (ho : w.ownsRow B 9 1 (.slice A n c) n ((q.map strOf).map .string)) (hs : ∀ k ∈ q, k.length ≤ maxLen) :
    Calls Tryz.prog 47 #[ptr p, .slice A n c] w fun e w' => e = .returned (.tuple #[.int .i64 (lookE T q).1, .int .i64 (lookE T q).2]) ∧ Below w.heap.size w w' := by
  obtain ⟨_, hr⟩ := RowAt.of_own ho
  refine in_look (S := fun x => B ≤ x ∧ x < w.heap.size) h A n c q ⟨hr, fun s hs' => ?_⟩
  obtain ⟨k, hk, rfl⟩ := List.mem_map.1 hs'
  rw [strOf_size]
  exact hs k hk
end Go.Proofs.YtbapdoicejakhaaGreat
