/- package state: as plain data; in memory. package state: New, Now, free, fd, no. package sha: rotated words, loaded words. SHA-256, plainly, in numbers. A drawn region taken by hand: the condition S may be made stronger on the way. -/
import Derived.Test.YtmabllemjkcobaaGreatDoorM24
import Derived.Test.YtmabllemjkcobaaGreatDoorM20
import Derived.Test.YtmabllemjkcobaaGreatDoorM18
import Derived.Test.YtmabllemjkcobaaGreatDoorM10
import Derived.Test.YtmabllemjkcobaaGreatDoorM01
import Derived.Deep.RegionHeld3
namespace Go.Proofs.YtmabllemjkcobaaGreatDoor
open Go.ChangeShapes Go.WideShapes Go.ChangeAt Go.RowKit
set_option linter.unusedVariables false
set_option linter.unusedSimpArgs false

/-- A descriptor that is not free. -/
structure FdM where
  wr : Bool
  id : Int
  b : List UInt8
structure StM where
  t : TrM
  s : SnM
  now : Int
  fds : Nat → Option FdM
def newSt : StM := ⟨newM, newSn, 0, fun _ => none⟩
/-- A descriptor in memory: it is turned no more. -/
def FdAt (o : Mark) (w : World) (v : Value) : Option FdM → Prop
  | none => v = .pointer none
  | some f => ∃ q a c, v = ptr q ∧ o q = 0 ∧ q < w.heap.size ∧ w.heap[q]? = some (.cells #[.bool f.wr, .int .i64 f.id, .slice a f.b.length c] 141 (0, 0)) ∧ f.b.length ≤ c ∧ RowAt (Free o w) w a f.b.length (f.b.map bv)
def stC (t s : Nat) (now : Int) (v : Nat → Value) : Array Value := #[ptr t, ptr s, .int .u64 now, v 0, v 1, v 2, v 3, v 4, v 5, v 6, v 7]
/-- A state in memory: i marks its snapshots, j its tree, k itself. -/
structure StateO (o : Mark) (i j k : Nat) (w : World) (p : Nat) (M : StM) : Prop where
  at_ : ∃ t s v, w.heap[p]? = some (.cells (stC t s M.now v) 66 (0, 0)) ∧ SnapsO o i w s M.s ∧ TreeO o j w t M.t ∧ ∀ n, n < 8 → FdAt o w (v n) (M.fds n)
  own : o p = k
  low : p < w.heap.size
theorem FdAt.step {o o' : Mark} {I : Nat → Prop} {w w' : World} {v : Value} {f : Option FdM} (h : FdAt o w v f) (hi : ¬ I 0) (hs : Step o I w o' w') : FdAt o' w' v f := by
  cases f with
  | none => exact h
  | some f =>
    obtain ⟨q, a, c, h1, h2, h3, h4, h5, h6⟩ := h
    exact ⟨q, a, c, h1, (hs.old q h3).trans h2, Nat.lt_of_lt_of_le h3 hs.keep.size, (hs.block h3 (by rw [h2]; exact hi)).trans h4, h5, h6.free hi hs⟩
theorem FdAt.grow {o : Mark} {w w' : World} {v : Value} {f : Option FdM} (h : FdAt o w v f) (hb : Below w.heap.size w w') : FdAt o w' v f := by
  cases f with
  | none => exact h
  | some f =>
    obtain ⟨q, a, c, h1, h2, h3, h4, h5, h6⟩ := h
    exact ⟨q, a, c, h1, h2, Nat.lt_of_lt_of_le h3 hb.size, (hb.block q h3).trans h4, h5, h6.move hb.size fun b hb' hbw => ⟨⟨hb'.1, Nat.lt_of_lt_of_le hb'.2 hb.size⟩, hb.block b hbw⟩⟩
theorem StateO.step {o o' : Mark} {I : Nat → Prop} {i j k : Nat} {w w' : World} {p : Nat} {M : StM} (h : StateO o i j k w p M) (h0 : ¬ I 0) (hi : ¬ I i) (hj : ¬ I j) (hk : ¬ I k) (hs : Step o I w o' w') : StateO o' i j k w' p M := by
  obtain ⟨t, s, v, h1, h2, h3, h4⟩ := h.at_
  exact ⟨⟨t, s, v, (hs.block h.low (by rw [h.own]; exact hk)).trans h1, h2.step h0 hi hs, h3.step h0 hj hs, fun n hn => (h4 n hn).step h0 hs⟩, (hs.old p h.low).trans h.own, Nat.lt_of_lt_of_le h.low hs.keep.size⟩
theorem StateO.grow {W : World} {o : Mark} {i j k : Nat} {w w' : World} {p : Nat} {M : StM} (h : StateO o i j k w p M) (hM : Marks W o w) (hb : Below w.heap.size w w') : StateO o i j k w' p M :=
  h.step (I := fun _ => False) (fun e => e) (fun e => e) (fun e => e) (fun e => e) (Step.grow hM hb)
theorem st_cells {w : World} {p t s : Nat} {now : Int} {v : Nat → Value} (h : w.heap[p]? = some (.cells (stC t s now v) 66 (0, 0))) : w.cell? ⟨p, 0, none⟩ = some (ptr t) ∧ w.cell? ⟨p, 1, none⟩ = some (ptr s) ∧ w.cell? ⟨p, 2, none⟩ = some (.int .u64 now) ∧ (∀ n, n < 8 → w.cell? ⟨p, 3 + n, none⟩ = some (v n)) ∧ ∀ j, w.frozen? ⟨p, j, none⟩ = false := by
  refine ⟨?_, ?_, ?_, fun n hn => ?_, fun j => ?_⟩
  · simp [World.cell?, h, stC]
  · simp [World.cell?, h, stC]
  · simp [World.cell?, h, stC]
  · rcases (show n = 0 ∨ n = 1 ∨ n = 2 ∨ n = 3 ∨ n = 4 ∨ n = 5 ∨ n = 6 ∨ n = 7 by omega) with rfl | rfl | rfl | rfl | rfl | rfl | rfl | rfl <;> simp [World.cell?, h, stC]
  · simp [World.frozen?, h]
theorem st_put (t s : Nat) (now : Int) (v : Nat → Value) (n : Nat) (hn : n < 8) (x : Value) : (stC t s now v).setIfInBounds (3 + n) x = stC t s now (fun m => if m = n then x else v m) := by
  rcases (show n = 0 ∨ n = 1 ∨ n = 2 ∨ n = 3 ∨ n = 4 ∨ n = 5 ∨ n = 6 ∨ n = 7 by omega) with rfl | rfl | rfl | rfl | rfl | rfl | rfl | rfl <;> rfl
theorem st_now (t s : Nat) (now u : Int) (v : Nat → Value) : (stC t s now v).setIfInBounds 2 (.int .u64 u) = stC t s u v := rfl
/-- The descriptor that is asked. -/
def getFd (M : StM) (n : Int) (wr : Bool) : Option FdM := if 0 ≤ n ∧ n < 8 then (match M.fds n.toNat with | some f => if f.wr = wr then some f else none | none => none) else none
def FreeR (M : StM) (v : Int) : Prop := (v = -1 ∧ ∀ n, n < 8 → M.fds n ≠ none) ∨ ∃ n : Nat, n < 8 ∧ v = n ∧ M.fds n = none ∧ ∀ m, m < n → M.fds m ≠ none
end Go.Proofs.YtmabllemjkcobaaGreatDoor
namespace Go.Proofs.YtmabllemjkcobaaGreatDoor
open Go.ChangeShapes Go.WideShapes Go.ChangeAt Go.RowKit
set_option linter.unusedVariables false
set_option linter.unusedSimpArgs false

def noV (z : Int) : Value := .agg #[.int .i64 z, .int .i64 0, .slice none 0 0, .slice none 0 0, .int .i64 0, .int .i64 0, .int .i64 0, .int .i64 0, .int .u64 0, .bool false]
theorem no_any (z : Int) (w : World) : Calls Tryz.prog 37 #[.int .i64 z] w fun e w' => e = .returned (noV z) ∧ Below w.heap.size w w' := by
  go_enter Tryz.func37, Tryz.ntmps37
  go_wp2
  refine bodyPost_ret (v := noV z) (by simp [results, Tryz.results37, noV, go_sem]) rfl ⟨rfl, wall w _⟩
section
variable {W w : World} {o : Mark} {i j k p : Nat} {M : StM}
def FdRet (o : Mark) (w : World) (M : StM) (n : Int) (b : Bool) (e : Ending) : Prop :=
  (getFd M n b = none ∧ e = .returned (.tuple #[.pointer none, .bool false])) ∨ ∃ f v, getFd M n b = some f ∧ e = .returned (.tuple #[v, .bool true]) ∧ FdAt o w v (some f)
set_option maxRecDepth 100000 in
set_option maxHeartbeats 4000000 in
theorem fd_any (h : StateO o i j k w p M) (n : Int) (b : Bool) : Calls Tryz.prog 100 #[ptr p, .int .i64 n, .bool b] w fun e w' => w' = w ∧ FdRet o w M n b e := by
  obtain ⟨t, s, v, h1, h2, h3, h4⟩ := h.at_
  obtain ⟨c0, c1, c2, c3, c4⟩ := st_cells h1
  have H4 := Lib.hid h4
  have C3 := Lib.hid c3
  clear h h1 h2 h3 h4 c3 c4
  by_cases hn0 : n < 0
  · have hg : Hid (getFd M n b = none) := by have : getFd M n b = none := by unfold getFd; rw [if_neg (by omega)]
                                             exact Lib.hid this
    have hd : decide (n < 0) = true := by simpa using hn0
    go_enter Tryz.func100, Tryz.ntmps100
    go_wp2_with fail
    go_ret2
    exact ⟨rfl, .inl ⟨hg.out, rfl⟩⟩
  · by_cases hn8 : 8 ≤ n
    · have hg : Hid (getFd M n b = none) := by have : getFd M n b = none := by unfold getFd; rw [if_neg (by omega)]
                                               exact Lib.hid this
      have hd : decide (n < 0) = false := by simpa using hn0
      have hd2 : decide (8 ≤ n) = true := by simpa using hn8
      go_enter Tryz.func100, Tryz.ntmps100
      go_wp2_with fail
      go_ret2
      exact ⟨rfl, .inl ⟨hg.out, rfl⟩⟩
    · obtain ⟨m, rfl⟩ : ∃ m : Nat, n = m := ⟨n.toNat, by omega⟩
      have hm : m < 8 := by omega
      have hcm := C3.out m hm
      have hf := H4.out m hm
      have hg : getFd M m b = match M.fds m with | some f => if f.wr = b then some f else none | none => none := by
        unfold getFd; rw [if_pos (by omega)]; rfl
      have hd : decide ((m : Int) < 0) = false := by simp
      have hd2 : decide (8 ≤ (m : Int)) = false := by simp; omega
      have i0 : (0 : Int) ≤ m := by omega
      have i1 : (m : Int) < 8 := by omega
      cases hfd : M.fds m with
      | none =>
        rw [hfd] at hf hg
        have hv : v m = .pointer none := hf
        rw [hv] at hcm
        have HG := Lib.hid hg
        clear hf hg hfd hv
        go_enter Tryz.func100, Tryz.ntmps100
        go_wp2_with fail
        go_ret2
        exact ⟨rfl, .inl ⟨HG.out, rfl⟩⟩
      | some f =>
        rw [hfd] at hf hg
        have HF := Lib.hid hf
        obtain ⟨q, a, c, hv, hq0, hq1, hq2, _, _⟩ := hf
        rw [hv] at hcm HF
        have q0 : w.cell? ⟨q, 0, none⟩ = some (.bool f.wr) := by simp [World.cell?, hq2]
        obtain ⟨fw, fi, fb⟩ := f
        have HG := Lib.hid hg
        clear hg hfd hv hq2
        cases fw with
        | false =>
          cases b with
          | false =>
            go_enter Tryz.func100, Tryz.ntmps100
            go_wp2_with fail
            go_ret2
            exact ⟨rfl, .inr ⟨⟨false, fi, fb⟩, _, HG.out.trans (if_pos trivial), rfl, HF.out⟩⟩
          | true =>
            go_enter Tryz.func100, Tryz.ntmps100
            go_wp2_with fail
            go_ret2
            exact ⟨rfl, .inl ⟨HG.out.trans (if_neg (by simp)), rfl⟩⟩
        | true =>
          cases b with
          | false =>
            go_enter Tryz.func100, Tryz.ntmps100
            go_wp2_with fail
            go_ret2
            exact ⟨rfl, .inl ⟨HG.out.trans (if_neg (by simp)), rfl⟩⟩
          | true =>
            go_enter Tryz.func100, Tryz.ntmps100
            go_wp2_with fail
            go_ret2
            exact ⟨rfl, .inr ⟨⟨true, fi, fb⟩, _, HG.out.trans (if_pos trivial), rfl, HF.out⟩⟩
end
end Go.Proofs.YtmabllemjkcobaaGreatDoor
namespace Go.Proofs.YtmabllemjkcobaaGreatDoor
open Go.ChangeShapes Go.WideShapes Go.ChangeAt Go.RowKit
set_option linter.unusedVariables false
set_option linter.unusedSimpArgs false

abbrev bor (a b : Int) : Int := bits .or .u32 a b
abbrev bxor (a b : Int) : Int := bits .xor .u32 a b
abbrev band (a b : Int) : Int := bits .and .u32 a b
/-- A word turned to the left. -/
def rotM (x : Int) (s : Nat) : Int := bor (x * 2 ^ s % 4294967296) (x / 2 ^ (32 - s))
theorem rot_any (x k : Int) (s : Nat) (w : World) (hk : bits .and .u64 (IntKind.u64.wrap k) 31 = (s : Int)) (h0 : 0 < s) (h1 : s < 32) : Calls Tryz.prog 240 #[.int .u32 x, .int .i64 k] w fun e w' => e = .returned (.int .u32 (rotM x s)) ∧ w = w' := by
  have e1 : (0 : Int) ≤ (s : Int) := by omega
  have e2 : (s : Int) ≤ 32 := by omega
  have e3 : IntKind.u64.wrap (32 - (s : Int)) = 32 - (s : Int) := by simp [IntKind.wrap, IntKind.bits, IntKind.signed]; omega
  have e4 : (0 : Int) ≤ 32 - (s : Int) := by omega
  have e5 : 32 - (s : Int) ≤ 32 := by omega
  go_enter Tryz.func240, Tryz.ntmps240
  go_wp2
  go_ret
  exact ⟨rfl, rfl⟩
/-- Four bytes' word. -/
def loadM (a b c d : UInt8) : Int := bor (bor (bor (bor 0 ((d.toNat : Int) % 4294967296)) ((c.toNat : Int) % 4294967296 * 256 % 4294967296)) ((b.toNat : Int) % 4294967296 * 65536 % 4294967296)) ((a.toNat : Int) % 4294967296 * 16777216 % 4294967296)
theorem load_any {S : Nat → Prop} (ad : Option Addr) (n c : Nat) (bs : List UInt8) (w : World) (hr : RowAt S w ad n (bs.map bv)) (hn : 4 ≤ n) : Calls Tryz.prog 239 #[.slice ad n c] w fun e w' => e = .returned (.int .u32 (loadM (bs.getD 0 0) (bs.getD 1 0) (bs.getD 2 0) (bs.getD 3 0))) ∧ w = w' := by
  obtain ⟨b, off, rfl, -, -, hc⟩ := hr.at_ (by omega)
  have hl : bs.length = n := by simpa using hr.length
  have hm := hr.small
  unfold maxLen at hm
  have q : ∀ i, i < 4 → w.cell? ⟨b, off + i, none⟩ = some (bv (bs.getD i 0)) := fun i hi => by
    rw [hc i (by omega), List.getElem?_map, List.getElem?_eq_getElem (by omega), List.getD_eq_getElem?_getD, List.getElem?_eq_getElem (by omega)]
    rfl
  have q0 : w.cell? ⟨b, off, none⟩ = some (.int .u8 ((bs.getD 0 0).toNat : Int)) := q 0 (by omega)
  have q1 : w.cell? ⟨b, off + 1, none⟩ = some (.int .u8 ((bs.getD 1 0).toNat : Int)) := q 1 (by omega)
  have q2 : w.cell? ⟨b, off + 2, none⟩ = some (.int .u8 ((bs.getD 2 0).toNat : Int)) := q 2 (by omega)
  have q3 : w.cell? ⟨b, off + 3, none⟩ = some (.int .u8 ((bs.getD 3 0).toNat : Int)) := q 3 (by omega)
  generalize bs.getD 0 0 = b0 at *
  generalize bs.getD 1 0 = b1 at *
  generalize bs.getD 2 0 = b2 at *
  generalize bs.getD 3 0 = b3 at *
  have d3 : ((n : Int) == 3) = false := by simp; omega
  have d2 : ((n : Int) == 2) = false := by simp; omega
  have d1 : ((n : Int) == 1) = false := by simp; omega
  have d0 : ((n : Int) == 0) = false := by simp; omega
  have l3 : (3 : Int) < (n : Int) := by omega
  have l2 : (2 : Int) < (n : Int) := by omega
  have l1 : (1 : Int) < (n : Int) := by omega
  have l0 : (0 : Int) < (n : Int) := by omega
  clear q hc hr
  go_enter Tryz.func239, Tryz.ntmps239
  go_wp2
  go_ret
  exact ⟨rfl, rfl⟩
end Go.Proofs.YtmabllemjkcobaaGreatDoor
namespace Go.Proofs.YtmabllemjkcobaaGreatDoor
open Go.ChangeShapes Go.WideShapes Go.ChangeAt Go.RowKit
set_option linter.unusedVariables false
set_option linter.unusedSimpArgs false

def kM : List Int := [1116352408, 1899447441, 3049323471, 3921009573, 961987163, 1508970993, 2453635748, 2870763221, 3624381080, 310598401, 607225278, 1426881987, 1925078388, 2162078206, 2614888103, 3248222580, 3835390401, 4022224774, 264347078, 604807628, 770255983, 1249150122, 1555081692, 1996064986, 2554220882, 2821834349, 2952996808, 3210313671, 3336571891, 3584528711, 113926993, 338241895, 666307205, 773529912, 1294757372, 1396182291, 1695183700, 1986661051, 2177026350, 2456956037, 2730485921, 2820302411, 3259730800, 3345764771, 3516065817, 3600352804, 4094571909, 275423344, 430227734, 506948616, 659060556, 883997877, 958139571, 1322822218, 1537002063, 1747873779, 1955562222, 2024104815, 2227730452, 2361852424, 2428436474, 2756734187, 3204031479, 3329325298]
def h0M : List Int := [1779033703, 3144134277, 1013904242, 2773480762, 1359893119, 2600822924, 528734635, 1541459225]
abbrev u32v (z : Int) : Value := .int .u32 z
abbrev M32 (z : Int) : Int := z % 4294967296
def wordM (b : List UInt8) (i : Nat) : Int := loadM ((b.drop (i * 4)).getD 0 0) ((b.drop (i * 4)).getD 1 0) ((b.drop (i * 4)).getD 2 0) ((b.drop (i * 4)).getD 3 0)
def sg0 (x : Int) : Int := bxor (bxor (rotM x 25) (rotM x 14)) (x / 8)
def sg1 (x : Int) : Int := bxor (bxor (rotM x 15) (rotM x 13)) (x / 1024)
/-- The next word. -/
def nextW (ws : List Int) : Int := M32 (M32 (M32 (ws.getD (ws.length - 16) 0 + sg0 (ws.getD (ws.length - 15) 0)) + ws.getD (ws.length - 7) 0) + sg1 (ws.getD (ws.length - 2) 0))
/-- So many words. -/
def schedM (b : List UInt8) : Nat → List Int
  | 0 => (List.range 16).map (wordM b)
  | n + 1 => schedM b n ++ [nextW (schedM b n)]
theorem schedM_len (b : List UInt8) : ∀ n, (schedM b n).length = 16 + n
  | 0 => by simp [schedM]
  | n + 1 => by unfold schedM; rw [List.length_append, schedM_len b n]; simp; omega
structure St8 where
  a : Int
  c : Int
  d : Int
  e : Int
  f : Int
  g : Int
  h : Int
  j : Int
def bnot (x : Int) : Int := bits .xor .u32 (if IntKind.u32.signed = true then -1 else IntKind.u32.max) x
def tM (s : St8) (k w : Int) : Int := M32 (s.j + bxor (bxor (rotM s.f 26) (rotM s.f 21)) (rotM s.f 7) + bxor (band s.f s.g) (band (bnot s.f) s.h) + k + w)
def uM (s : St8) : Int := M32 (bxor (bxor (rotM s.a 30) (rotM s.a 19)) (rotM s.a 10) + bxor (bxor (band s.a s.c) (band s.a s.d)) (band s.c s.d))
def roundM (s : St8) (k w : Int) : St8 := ⟨M32 (tM s k w + uM s), s.a, s.c, s.d, M32 (s.e + tM s k w), s.f, s.g, s.h⟩
/-- So many rounds. -/
def roundsM (s : St8) (ws : List Int) : Nat → St8
  | 0 => s
  | n + 1 => roundM (roundsM s ws n) (kM.getD n 0) (ws.getD n 0)
def St8.list (s : St8) : List Int := [s.a, s.c, s.d, s.e, s.f, s.g, s.h, s.j]
def St8.of (h : List Int) : St8 := ⟨h.getD 0 0, h.getD 1 0, h.getD 2 0, h.getD 3 0, h.getD 4 0, h.getD 5 0, h.getD 6 0, h.getD 7 0⟩
/-- A block more. -/
def blockM (h : List Int) (b : List UInt8) : List Int := List.zipWith (fun x y => M32 (x + y)) h (roundsM (St8.of h) (schedM b 48) 64).list
theorem blockM_len (h : List Int) (b : List UInt8) (hl : h.length = 8) : (blockM h b).length = 8 := by unfold blockM; rw [List.length_zipWith, hl]; rfl
/-- So many blocks more. -/
def runM (h : List Int) : Nat → List UInt8 → List Int
  | 0, _ => h
  | n + 1, b => runM (blockM h (b.take 64)) n (b.drop 64)
theorem runM_len : ∀ (n : Nat) (h : List Int) (b : List UInt8), h.length = 8 → (runM h n b).length = 8
  | 0, h, b, hl => hl
  | n + 1, h, b, hl => runM_len n _ _ (blockM_len h _ hl)
end Go.Proofs.YtmabllemjkcobaaGreatDoor
namespace Go.Proofs.YtmabllemjkcobaaGreatDoor
theorem wpAnyH_mono {P : Program} {md : Region.Mode} {ops : Array Oper} {Q : Exit → Act → World → Prop} {S S' : World → Prop} (h : ∀ w, S' w → S w) :
    ∀ (fuel : Nat) (listed : Array Bool) (a : Act) (w : World), wpAnyH P md ops Q S' fuel listed a w → wpAnyH P md ops Q S fuel listed a w
  | 0, _, _, _, hw => hw
  | fuel + 1, _, _, _, hw => ⟨hw.1, fun i hi => wpOp_mono (fun _ _ h' => ⟨h _ h'.1, wpAnyH_mono h fuel _ _ _ h'.2⟩) (hw.2 i hi)⟩
open Go
set_option linter.unusedVariables false
theorem tkH {P : Program} {ops : Array Oper} {Q : Exit → Act → World → Prop} {md : Region.Mode} {S : World → Prop} (i : Nat) {oi : Oper} {v : Value} {fuel : Nat} {listed l' : Array Bool} {a a' : Act} {w : World}
    (hi : ops[i]? = some oi := by simp only [List.getElem?_toArray, List.getElem?_cons_succ, List.getElem?_cons_zero]; rfl)
    (hs : Region.noSelect ops = true := by kernel_rfl) (hf : Region.free md ops listed i = true := by kernel_rfl) (hr : (Region.ready md ops listed).contains i = true := by kernel_rfl)
    (hQ : ∀ c a w, Q (.panic c) (a.put oi.dst v) w → Q (.panic c) a w := by exact fun _ _ _ h => h)
    (hw : Region.wanted oi (yielded ops a.tmps) = true := by rfl)
    (hy : ∀ w, S w → (execOp a.eval oi).run P w = .ok (.value v) w := by intro w hSw; (try dsimp only at hSw); go_simp; (try with_reducible rfl))
    (hl : listed.setIfInBounds i true = l' := by (try simp only [List.setIfInBounds_toArray, List.set_cons_zero, List.set_cons_succ]); rfl)
    (ha : a.put oi.dst v = a' := by (try simp only [Act.put, List.setIfInBounds_toArray, List.set_cons_zero, List.set_cons_succ]); rfl)
    (hS : S w) (h : wpAnyH P md ops Q S fuel l' a' w) : wpAnyH P md ops Q S (fuel + 1) listed a w :=
  wpAnyH_take hi hs hf hr hQ (Or.inl ⟨hw, hy⟩) hS (by rw [hl, ha]; exact h)
theorem rdH {P : Program} {ops : Array Oper} {Q : Exit → Act → World → Prop} {md : Region.Mode} {S : World → Prop} (i : Nat) {o : Oper} {fuel : Nat} {listed : Array Bool} {a : Act} {w : World}
    (ho : ops[i]? = some o := by simp only [List.getElem?_toArray, List.getElem?_cons_succ, List.getElem?_cons_zero]; rfl) (hr : Region.ready md ops listed = [i] := by kernel_rfl)
    (h : ∀ K' : Act → World → Prop, Shut (∀ a w, S w → (S w → wpAnyH P md ops Q S fuel (listed.setIfInBounds i true) a w) → K' a w) → if Region.wanted o (yielded ops a.tmps) = true then Oper.wp P o a w K' Q else K' (a.put o.dst undef) w) : wpAnyH P md ops Q S (fuel + 1) listed a w :=
  wpAnyH_ready hr (by simp) (AllReadyH.cons ho h AllReadyH.nil)
end Go.Proofs.YtmabllemjkcobaaGreatDoor
