/- package codec: Short, Byte, Long, Flag, Raw, Bytes, Done, NewWriter. node.Right, node.Encode. slices.Sorted(maps.Keys(x.names)), of a directory or a file. -/
import Derived.Test.YtbapdoicejakhaaGreatM43
import Derived.Test.YtbapdoicejakhaaGreatM13
import Derived.Test.YtbapdoicejakhaaGreatM10
import Derived.Test.YtbapdoicejakhaaGreatM25
namespace Go.Proofs.YtbapdoicejakhaaGreat
open Go.ChangeShapes Go.WideShapes Go.ChangeAt Go.RowKit
set_option linter.unusedVariables false
set_option linter.unusedSimpArgs false

theorem newWriter_any (w : World) : Calls Tryz.prog 80 #[] w fun e w' => e = .returned (ptr w.heap.size) ∧ WriterAt w.heap.size w' w.heap.size (.slice none 0 0) [] ∧ Below w.heap.size w w' := by
  go_enter Tryz.func80, Tryz.ntmps80
  go_wp2
  go_ret
  exact ⟨rfl, ⟨(MapKept.heap_alloc w _).1, ⟨rfl, .inl ⟨rfl, rfl⟩⟩, Nat.le_refl _, by simp [Value.ownBlock]⟩, wall w _⟩
section
variable {B x : Nat} {w : World} {v : Value} {bs : List UInt8}
theorem WMore.low {bs' : List UInt8} {v' : Value} {w' : World} (h : WMore B w x v bs' v' w') (h0 : WriterAt B w x v bs) : Below B w w' :=
  h.2.1.to_below (Nat.le_of_lt (Nat.lt_of_le_of_lt h0.low h0.lt)) fun b hb hf => by
    rcases hf with h1 | h1
    · have := h0.low; omega
    · have := own_block_ge h0.own b h1; omega
theorem short_any (h : WriterAt B w x v bs) (n : Int) (hn0 : 0 ≤ n) (hn : n ≤ 1000000000) (hl : bs.length ≤ 100000000) : Calls Tryz.prog 81 #[ptr x, .int .i64 n] w (WTurn B w x v (bs ++ beB n 2)) := by
  have HP : Hid (Calls Tryz.prog 111 #[ptr x, .int .u64 n, .int .i64 2] w (WTurn B w x v (bs ++ beB n 2))) := put_any h n 2 (by omega) (by omega) (by omega) hl
  have e1 : IntKind.u64.wrap n = n := by simp [IntKind.wrap, IntKind.bits, IntKind.signed]; omega
  clear h
  go_enter Tryz.func81, Tryz.ntmps81
  go_wp2_with fail
  (with_reducible refine HP.out.mono ?_)
  rintro e w1 ⟨rfl, v1, hm⟩
  go_wp2_with fail
  go_end0
  exact ⟨rfl, v1, hm⟩
theorem byte_any (h : WriterAt B w x v bs) (n : Int) (hn0 : 0 ≤ n) (hn : n ≤ 1000000000) (hl : bs.length ≤ 100000000) : Calls Tryz.prog 115 #[ptr x, .int .i64 n] w (WTurn B w x v (bs ++ beB n 1)) := by
  have HP : Hid (Calls Tryz.prog 111 #[ptr x, .int .u64 n, .int .i64 1] w (WTurn B w x v (bs ++ beB n 1))) := put_any h n 1 (by omega) (by omega) (by omega) hl
  have e1 : IntKind.u64.wrap n = n := by simp [IntKind.wrap, IntKind.bits, IntKind.signed]; omega
  clear h
  go_enter Tryz.func115, Tryz.ntmps115
  go_wp2_with fail
  (with_reducible refine HP.out.mono ?_)
  rintro e w1 ⟨rfl, v1, hm⟩
  go_wp2_with fail
  go_end0
  exact ⟨rfl, v1, hm⟩
theorem long_any (h : WriterAt B w x v bs) (n : Int) (hn : 0 ≤ n) (hn' : n ≤ 18446744073709551615) (hl : bs.length ≤ 100000000) : Calls Tryz.prog 116 #[ptr x, .int .u64 n] w (WTurn B w x v (bs ++ beB n 8)) := by
  have HP : Hid (Calls Tryz.prog 111 #[ptr x, .int .u64 n, .int .i64 8] w (WTurn B w x v (bs ++ beB n 8))) := put_any h n 8 hn hn' (by omega) hl
  clear h
  go_enter Tryz.func116, Tryz.ntmps116
  go_wp2_with fail
  (with_reducible refine HP.out.mono ?_)
  rintro e w1 ⟨rfl, v1, hm⟩
  go_wp2_with fail
  go_end0
  exact ⟨rfl, v1, hm⟩
/-- A flag's byte. -/
def flagB (f : Bool) : List UInt8 := beB (if f then 1 else 0) 1
theorem flag_any (h : WriterAt B w x v bs) (f : Bool) (hl : bs.length ≤ 100000000) : Calls Tryz.prog 117 #[ptr x, .bool f] w (WTurn B w x v (bs ++ flagB f)) := by
  have HP1 := Lib.hid (byte_any h 1 (by omega) (by omega) hl)
  have HP0 := Lib.hid (byte_any h 0 (by omega) (by omega) hl)
  clear h
  cases f
  · have HQ : Hid (Calls Tryz.prog 115 #[ptr x, .int .i64 0] w (WTurn B w x v (bs ++ flagB false))) := HP0.out
    go_enter Tryz.func117, Tryz.ntmps117
    go_wp2_with fail
    (with_reducible refine HQ.out.mono ?_)
    rintro e w1 ⟨rfl, v1, hm⟩
    go_wp2_with fail
    go_end0
    exact ⟨rfl, v1, hm⟩
  · have HQ : Hid (Calls Tryz.prog 115 #[ptr x, .int .i64 1] w (WTurn B w x v (bs ++ flagB true))) := HP1.out
    go_enter Tryz.func117, Tryz.ntmps117
    go_wp2_with fail
    (with_reducible refine HQ.out.mono ?_)
    rintro e w1 ⟨rfl, v1, hm⟩
    go_wp2_with fail
    (try simp only [Exit.inBlock, Exit.then])
    refine bodyPost_ret (results_none rfl _ _ _) rfl ?_
    exact ⟨rfl, v1, hm⟩
theorem grown_head {u1 : World} (h : WriterAt B w x v bs) (hg : w.grownBy u1 v.ownBlock) : u1.cell? ⟨x, 0, none⟩ = some v ∧ u1.frozen? ⟨x, 0, none⟩ = false := by
  have hux := (hg.block x h.lt (fun e => h.apart e.symm)).trans h.head
  exact ⟨by simp [World.cell?, hux], by simp [World.frozen?, hux]⟩
theorem raw_any {S : Nat → Prop} (h : WriterAt B w x v bs) (a : Option Addr) (m c : Nat) (l : List UInt8) (hr : RowAt S w a m (l.map bv)) (hl : bs.length ≤ 100000000) (hm : m ≤ 100000000) : Calls Tryz.prog 118 #[ptr x, .slice a m c] w (WTurn B w x v (bs ++ l)) := by
  obtain ⟨i8, hi⟩ : ∃ i, Tryz.prog.info? 5 = some i ∧ i.zero = some (.int .u8 0) ∧ i.size = 1 ∧ i.bytes = 1 := info_parts (by kernel_rfl)
  have HI := Lib.hid hi
  have HW := Lib.hid h
  have HR := Lib.hid hr
  have c0 := h.cell
  have f0 := h.frozen
  have hBw : B ≤ w.heap.size := Nat.le_of_lt (Nat.lt_of_le_of_lt h.low h.lt)
  have hlm : l.length = m := by simpa using hr.length
  have HLM := Lib.hid hlm
  clear h hi hr hlm
  obtain ⟨N, hN⟩ : ∃ N, N = bs.length := ⟨_, rfl⟩
  have HOW : Hid (w.ownsRow B 5 1 v N (bs.map bv)) := by rw [hN]; exact HW.out.own
  have HNN := Lib.hid hN
  rw [← hN] at hl
  clear hN
  have hxw := HW.out.lt
  go_enter Tryz.func118, Tryz.ntmps118
  go_wp2_with (at_builtin; refine wpList_append_row rfl _ _ 51 rfl B 5 i8 _ 1 Tryz.underlying51 HI.out.1 HI.out.2.1 HI.out.2.2.1 HI.out.2.2.2 rfl v N (bs.map bv) rfl HOW.out a m c (l.map bv) rfl HR.out (bytes_one l) (by unfold maxLen; omega) (by omega) hBw ?_; intro A1 c1 u1 hown1 hg1 _ hat1; have hux := grown_head HW.out hg1; have hcx := hux.1; have hfx := hux.2; clear hux)
  go_end0
  refine ⟨rfl, _, w_store (wa := w) HW.out (Below.refl _ _) ?_ hg1 hat1⟩
  have h9 : (bs ++ l).length = N + m := by rw [List.length_append, ← HNN.out, HLM.out]
  rw [h9, List.map_append]
  exact hown1
set_option maxHeartbeats 1000000 in
/-- A row, its length ahead: the row is none of the writer's. -/
theorem bytes_w {S : Nat → Prop} (h : WriterAt B w x v bs) (a : Option Addr) (m c : Nat) (l : List UInt8) (hr : RowAt S w a m (l.map bv)) (hS : ∀ b, S b → b ≠ x ∧ v.ownBlock ≠ some b) (hc : m ≤ c) (hl : bs.length ≤ 90000000) (hm : m ≤ 65535) : Calls Tryz.prog 84 #[ptr x, .slice a m c] w (WTurn B w x v (bs ++ (beB m 2 ++ l))) := by
  have HS := Lib.hid (short_any h (m : Int) (by omega) (by omega) (by omega))
  have HW := Lib.hid h
  have HRR := Lib.hid hr
  have HSS := Lib.hid hS
  have e1 : min (m : Int) 65535 = (m : Int) := by omega
  have h0 : (0 : Int) ≤ (m : Int) := by omega
  have h1 : (m : Int) ≤ (c : Int) := by omega
  clear h hr hS
  go_enter Tryz.func84, Tryz.ntmps84
  go_wp2_with fail
  (with_reducible refine HS.out.mono ?_)
  rintro e w1 ⟨rfl, v1, hm1⟩
  have HM := Lib.hid hm1
  have hr1 : RowAt S w1 a m (l.map bv) := HRR.out.kept hm1.2.1.size fun b hb hbw => hm1.2.1.block b hbw fun hf => by
    rcases hf with h4 | h4
    · exact (HSS.out b hb).1 h4
    · exact (HSS.out b hb).2 h4
  have HRW := Lib.hid (raw_any hm1.1 a m c l hr1 (by rw [List.length_append]; have : (beB (m : Int) 2).length = 2 := rfl; omega) (by omega))
  clear hm1 hr1
  go_wp2_with fail
  (with_reducible refine HRW.out.mono ?_)
  rintro e w2 ⟨rfl, v2, hm2⟩
  go_wp2_with fail
  go_end0
  refine ⟨rfl, v2, ?_⟩
  have := HM.out.trans hm2
  rw [List.append_assoc] at this
  exact this
/-- Done: a row of one's own. -/
theorem done_any (h : WriterAt B w x v bs) (hl : bs.length ≤ 100000000) : Calls Tryz.prog 87 #[ptr x] w (RetRow w bs) := by
  obtain ⟨a, c, rfl, hc⟩ := own_form h.own
  obtain ⟨_, hr⟩ := RowAt.of_own h.own
  have HC := Lib.hid (bclone_row a bs.length c bs w (by omega) hr)
  have c0 := h.cell
  clear h hr
  go_enter Tryz.func87, Tryz.ntmps87
  go_wp2_with fail
  (with_reducible refine HC.out.mono ?_)
  rintro e w1 ⟨a1, n1, c1, rfl, hn1, hr1, hb1⟩
  go_wp2_with fail
  go_ret
  exact ⟨a1, n1, c1, rfl, hn1, hr1, hb1⟩
end
end Go.Proofs.YtbapdoicejakhaaGreat
namespace Go.Proofs.YtbapdoicejakhaaGreat
open Go.ChangeShapes Go.WideShapes Go.ChangeAt Go.RowKit
set_option linter.unusedVariables false
set_option linter.unusedSimpArgs false

set_option maxHeartbeats 2000000 in
theorem right_any (k : Int) (x : ItM) (h1 : Ok1 x) (hk : 0 ≤ k) (hk' : k ≤ 65535) (w : World) : Calls Tryz.prog 114 #[nodeV k x] w fun e w' => e = .returned (.bool true) ∧ Below w.heap.size w w' := by
  obtain ⟨l0, l1⟩ := h1.links
  obtain ⟨t0, t1⟩ := h1.til
  have hb := h1.size
  obtain ⟨n, hn⟩ : ∃ n, n = x.b.length := ⟨_, rfl⟩
  rw [← hn] at hb
  have d1 : decide (k < 0) = false := by simpa using hk
  have d2 : decide (65535 < k) = false := by simpa using hk'
  have d3 : decide (x.links < 0) = false := by simpa using l0
  have d4 : decide (65535 < x.links) = false := by simp; omega
  have d5 : decide ((n : Int) ≤ 4096) = true := by simp; omega
  have d6 : decide (x.til ≤ 1099511627776) = true := by simpa using t1
  have d7 : decide ((0 : Int) ≤ (n : Int)) = true := by simp
  unfold nodeV
  rw [← hn]
  by_cases hk2 : x.kind = 2
  · obtain ⟨_, hcl, hbn, htl⟩ := h1.dir hk2
    have hn0 : n = 0 := by rw [hn, hbn]; rfl
    subst hn0
    rw [hk2, hcl, htl]
    clear hn h1 hk2 hcl hbn htl d6
    go_enter Tryz.func114, Tryz.ntmps114
    go_wp2
    all_goals (first | (go_ret; exact ⟨rfl, wall w _⟩) | ((try simp only [Exit.inBlock, Exit.then]); refine bodyPost_ret (by rfl) rfl ?_; exact ⟨rfl, wall w _⟩))
  · have hk1 := h1.kind.resolve_right hk2
    rw [hk1]
    clear hn h1 hk2 hk1
    go_enter Tryz.func114, Tryz.ntmps114
    go_wp2
    all_goals (first | (go_ret; exact ⟨rfl, wall w _⟩) | ((try simp only [Exit.inBlock, Exit.then]); refine bodyPost_ret (by rfl) rfl ?_; exact ⟨rfl, wall w _⟩))
/-- A node's bytes. -/
def encB (k : Int) (x : ItM) : List UInt8 := beB k 2 ++ beB x.kind 1 ++ beB x.links 2 ++ beB x.b.length 2 ++ beB x.til 8 ++ flagB x.closed
theorem beB_len (n : Int) : ∀ s, (beB n s).length = s
  | 0 => rfl
  | s + 1 => by unfold beB; rw [List.length_cons, beB_len n s]
theorem encB_len (k : Int) (x : ItM) : (encB k x).length = 16 := by
  unfold encB flagB
  simp only [List.length_append, beB_len]
set_option maxHeartbeats 4000000 in
theorem encode_any (k : Int) (x : ItM) (h1 : Ok1 x) (hk : 0 ≤ k) (hk' : k ≤ 65535) (w : World) : Calls Tryz.prog 83 #[nodeV k x] w fun e w' => ∃ a n c, e = .returned (.tuple #[.slice a n c, .int .i64 0]) ∧ n ≤ c ∧ RowAt (fun b => w.heap.size ≤ b ∧ b < w'.heap.size) w' a n ((encB k x).map bv) ∧ Below w.heap.size w w' := by
  have HR := Lib.hid (fun w' => right_any k x h1 hk hk' w')
  obtain ⟨l0, l1⟩ := h1.links
  obtain ⟨t0, t1⟩ := h1.til
  have hb := h1.size
  have hkd : 0 ≤ x.kind ∧ x.kind ≤ 2 := by rcases h1.kind with h | h <;> omega
  obtain ⟨kd0, kd1⟩ := hkd
  unfold encB
  obtain ⟨n, hn⟩ : ∃ n : Nat, n = x.b.length := ⟨_, rfl⟩
  rw [← hn] at hb
  unfold nodeV at HR ⊢
  rw [← hn] at HR ⊢
  clear h1 hn
  go_enter Tryz.func83, Tryz.ntmps83
  go_wp2_with fail
  (with_reducible refine (HR.out _).mono ?_)
  rintro e w1 ⟨rfl, hb1⟩
  have hsa : (w.alloc (.cells #[.int .i64 k, .int .i64 x.kind, .int .i64 x.links, .int .i64 n, .int .u64 x.til, .bool x.closed] 29)).heap.size = w.heap.size + 1 := by simp
  have hs1 := hb1.size
  have HQ : Hid (∀ w', Below w1.heap.size w1 w' → ∀ j, w'.cell? ⟨w.heap.size, j, none⟩ = (#[.int .i64 k, .int .i64 x.kind, .int .i64 x.links, .int .i64 n, .int .u64 x.til, .bool x.closed] : Array Value)[j]?) := fun w' hb j => by
    rw [hb.cell (p := ⟨w.heap.size, j, none⟩) (by simp only; omega), hb1.cell (p := ⟨w.heap.size, j, none⟩) (by simp)]
    exact item_block (MapKept.heap_alloc w _).1 j
  have HB1 := Lib.hid ((wall w (.cells #[.int .i64 k, .int .i64 x.kind, .int .i64 x.links, .int .i64 n, .int .u64 x.til, .bool x.closed] 29)).trans (hb1.mono (by omega)))
  clear hb1 HR
  go_wp2_with fail
  (with_reducible refine (newWriter_any w1).mono ?_)
  rintro e w2 ⟨rfl, hW2, hb2⟩
  have HW2 := Lib.hid hW2
  have HB2 := Lib.hid hb2
  clear hW2 hb2
  have q0 : w2.cell? ⟨w.heap.size, 0, none⟩ = some (.int .i64 k) := HQ.out _ HB2.out 0
  have HS0 := Lib.hid (short_any HW2.out k (by omega) (by omega) (by simp only [List.length_append, List.length_nil, beB_len]; omega))
  go_wp2_with fail
  (with_reducible refine HS0.out.mono ?_)
  rintro e w3 ⟨rfl, v3, hm3⟩
  have HW3 := Lib.hid hm3.1
  have HB3 := Lib.hid (HB2.out.trans (hm3.low HW2.out))
  clear q0 hm3 HS0 HW2 HB2
  have q1 : w3.cell? ⟨w.heap.size, 1, none⟩ = some (.int .i64 x.kind) := HQ.out _ HB3.out 1
  have HS1 := Lib.hid (byte_any HW3.out x.kind (by omega) (by omega) (by simp only [List.length_append, List.length_nil, beB_len]; omega))
  go_wp2_with fail
  (with_reducible refine HS1.out.mono ?_)
  rintro e w4 ⟨rfl, v4, hm4⟩
  have HW4 := Lib.hid hm4.1
  have HB4 := Lib.hid (HB3.out.trans (hm4.low HW3.out))
  clear q1 hm4 HS1 HW3 HB3
  have q2 : w4.cell? ⟨w.heap.size, 2, none⟩ = some (.int .i64 x.links) := HQ.out _ HB4.out 2
  have HS2 := Lib.hid (short_any HW4.out x.links (by omega) (by omega) (by simp only [List.length_append, List.length_nil, beB_len]; omega))
  go_wp2_with fail
  (with_reducible refine HS2.out.mono ?_)
  rintro e w5 ⟨rfl, v5, hm5⟩
  have HW5 := Lib.hid hm5.1
  have HB5 := Lib.hid (HB4.out.trans (hm5.low HW4.out))
  clear q2 hm5 HS2 HW4 HB4
  have q3 : w5.cell? ⟨w.heap.size, 3, none⟩ = some (.int .i64 n) := HQ.out _ HB5.out 3
  have HS3 := Lib.hid (short_any HW5.out (n : Int) (by omega) (by omega) (by simp only [List.length_append, List.length_nil, beB_len]; omega))
  go_wp2_with fail
  (with_reducible refine HS3.out.mono ?_)
  rintro e w6 ⟨rfl, v6, hm6⟩
  have HW6 := Lib.hid hm6.1
  have HB6 := Lib.hid (HB5.out.trans (hm6.low HW5.out))
  clear q3 hm6 HS3 HW5 HB5
  have q4 : w6.cell? ⟨w.heap.size, 4, none⟩ = some (.int .u64 x.til) := HQ.out _ HB6.out 4
  have HS4 := Lib.hid (long_any HW6.out x.til (by omega) (by omega) (by simp only [List.length_append, List.length_nil, beB_len]; omega))
  go_wp2_with fail
  (with_reducible refine HS4.out.mono ?_)
  rintro e w7 ⟨rfl, v7, hm7⟩
  have HW7 := Lib.hid hm7.1
  have HB7 := Lib.hid (HB6.out.trans (hm7.low HW6.out))
  clear q4 hm7 HS4 HW6 HB6
  have q5 : w7.cell? ⟨w.heap.size, 5, none⟩ = some (.bool x.closed) := HQ.out _ HB7.out 5
  have HS5 := Lib.hid (flag_any HW7.out x.closed  (by simp only [List.length_append, List.length_nil, beB_len]; omega))
  go_wp2_with fail
  (with_reducible refine HS5.out.mono ?_)
  rintro e w8 ⟨rfl, v8, hm8⟩
  have HW8 := Lib.hid hm8.1
  have HB8 := Lib.hid (HB7.out.trans (hm8.low HW7.out))
  clear q5 hm8 HS5 HW7 HB7
  have HD := Lib.hid (done_any HW8.out (by simp only [List.length_append, List.length_nil, beB_len, flagB]; omega))
  go_wp2_with fail
  (with_reducible refine HD.out.mono ?_)
  rintro e w9 ⟨a9, n9, c9, rfl, hc9, hr9, hb9⟩
  have HR9 := Lib.hid hr9
  have HB9 := Lib.hid (HB8.out.trans (hb9.mono HB8.out.size))
  have hs8 := HB8.out.size
  have hc9' := hc9
  clear hr9 hb9 HD
  go_wp2_with fail
  go_ret2
  refine ⟨a9, n9, c9, rfl, hc9', ?_, HB1.out.trans (HB9.out.mono HB1.out.size)⟩
  have h9 := HR9.out.mono (S' := fun b => w.heap.size ≤ b ∧ b < w9.heap.size) fun b hb => ⟨by have := HB1.out.size; omega, hb.2⟩
  simpa using h9
end Go.Proofs.YtbapdoicejakhaaGreat
namespace Go.Proofs
open Go.RowKit Go.Maps Go.Sort Go.Shelf
set_option maxHeartbeats 1000000 in
theorem Tryz.sortedNilS (w : World) : Calls Tryz.prog 85 #[.func (.func 121) #[] #[.pointer (some ⟨w.heap.size, 0, none⟩)]] (w.alloc (.cells #[.map none] 89)) fun e w' => e = .returned (.slice none 0 0) ∧ Below (w.alloc (.cells #[.map none] 89)).heap.size (w.alloc (.cells #[.map none] 89)) w' := by
  have hseq : SeqGives Fence.wide 2 Tryz.prog 121 #[.pointer (some ⟨w.heap.size, 0, none⟩)] encStr (fun ss : List (List UInt8) => ss = []) 0 (w.alloc (.cells #[.map none] 89)) :=
    AnyZ.keys_gives_nil (ρ := Tryz.keysS_ren) { Tryz.keysS with } Fence.wide _ trivial rfl w.heap.size _ (by simp) (by simp)
  have h := callsIn_wide.1 (AnyZ.sorted_in Tryz.sortedS Fence.wide 5 trivial trivial trivial trivial rfl (by omega) (Tryz.sortsS _) (enters_of Tryz.func120 (by kernel_rfl) rfl) 121 #[.pointer (some ⟨w.heap.size, 0, none⟩)] trivial (enters_of Tryz.func121 (by kernel_rfl) rfl) _ 0 (Nat.zero_le _) (by omega) _ hseq)
  refine h.mono ?_
  rintro e w' ⟨v, ss, rfl, rfl, hrow, hnil, hb⟩
  obtain rfl : v = .slice none 0 0 := hnil.2 rfl
  exact ⟨rfl, hb⟩
end Go.Proofs
namespace Go.Proofs.YtbapdoicejakhaaGreat
open Go.ChangeShapes Go.WideShapes Go.ChangeAt Go.RowKit
set_option linter.unusedVariables false
set_option linter.unusedSimpArgs false

/-- A new row of texts. -/
def KeysRow (w : World) (L : List Nm) (e : Ending) (w' : World) : Prop :=
  ∃ a c, e = .returned (.slice a L.length c) ∧ L.length ≤ c ∧ StrsAt (fun x => w.heap.size ≤ x ∧ x < w'.heap.size) w' a L.length (L.map strOf) ∧ Below w.heap.size w w'
section
variable {g : Nat → Own} {D : Nat → Prop} {p mb : Nat} {ib nb : Int → Nat} {T : TrM}
set_option maxHeartbeats 1000000 in
theorem sorted_at (k : Int) (x : ItM) (w : World) (h : TreeAt g D w p mb ib nb T) (hT : OkM T) (hx : aget k T = some x) :
    Calls Tryz.prog 85 #[.func (.func 121) #[] #[.pointer (some ⟨w.heap.size, 0, none⟩)]] (w.alloc (.cells #[namesV x (nb k)] 89)) (KeysRow (w.alloc (.cells #[namesV x (nb k)] 89)) (x.names.map (·.1))) := by
  have O1 := hT.each k x hx
  have hfew := hT.few hx
  by_cases hk : x.kind = 2
  · have e2 : namesV x (nb k) = .map (some (nb k)) := if_pos hk
    rw [e2]
    have hM := (h.item k x hx).names hk
    have hsz : (nameL x).length = x.names.length := List.length_map _
    refine (Tryz.sortedOfS (nb k) (nameL x).length (toD strK (nameL x)) rawE w hM (by rw [toD_size, hsz]; unfold maxLen; omega) (by rw [toD_size, hsz]; omega)).mono ?_
    rintro e w' ⟨v, ss, rfl, hp, hown, hnil, hB⟩
    rw [strKeys_toD] at hp
    have hml : (nameL x).map (·.1) = x.names.map (·.1) := by unfold nameL; rw [List.map_map]; rfl
    rw [hml] at hp
    rw [sorted_names O1.sorted hp] at hown
    have hlen : ss.length = (x.names.map (·.1)).length := hp.length_eq
    have hgood : ∀ s ∈ (x.names.map (·.1)).map strOf, s.size ≤ maxLen := by
      intro s hs
      obtain ⟨l, hl, rfl⟩ := List.mem_map.1 hs
      obtain ⟨e, he, rfl⟩ := List.mem_map.1 hl
      have := good_len _ (O1.good e he)
      rw [strOf_size]; unfold maxLen; omega
    obtain ⟨a, c, rfl, hc⟩ := own_form hown
    obtain ⟨_, hr⟩ := RowAt.of_own hown
    rw [hlen] at hr hc
    have hr2 : RowAt (fun x_1 => (w.alloc (.cells #[.map (some (nb k))] 89)).heap.size ≤ x_1 ∧ x_1 < w'.heap.size) w' a (x.names.map (·.1)).length (((x.names.map (·.1)).map strOf).map .string) := by
      rw [List.map_map]
      exact hr
    exact ⟨a, c, by rw [hlen], hc, ⟨hr2, hgood⟩, hB⟩
  · have e2 : namesV x (nb k) = .map none := if_neg hk
    have hnil : x.names = [] := O1.file (O1.kind.resolve_right hk)
    rw [e2, hnil]
    refine (Tryz.sortedNilS w).mono ?_
    rintro e w' ⟨rfl, hB⟩
    exact ⟨none, 0, rfl, Nat.le_refl _, ⟨RowAt.nil _ _ _, by simp⟩, hB⟩
end
end Go.Proofs.YtbapdoicejakhaaGreat
