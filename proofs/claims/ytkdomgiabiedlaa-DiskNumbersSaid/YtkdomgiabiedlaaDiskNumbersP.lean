/- DiskNumbers: the seventeen Asks, and the law's own blocks. -/
import Derived.Test.YtkdomgiabiedlaaDo2
namespace Go.Proofs.Ytkdomgiabiedlaa
open Go.ChangeShapes Go.WideShapes Go.ChangeAt Go.RowKit
set_option linter.unusedVariables false
set_option linter.unusedSimpArgs false

structure AskV where
  x : AskM
  ba : Option Addr
  bn : Nat
  bc : Nat
  ka : Option Addr
  kn : Nat
  kc : Nat
def wAsk (i : Int) (o p n : Nat) (bs : List UInt8) : AskV := ⟨⟨1, i, bs, [], 0, 0⟩, some ⟨o, 0, none⟩, n, p, none, 0, 0⟩
def cAsk (i torn cut : Int) : AskV := ⟨⟨3, i, [], [], torn, cut⟩, none, 0, 0, none, 0, 0⟩
def kAsk (i torn cut : Int) (g n : Nat) (ks : List Bool) : AskV := ⟨⟨3, i, [], ks, torn, cut⟩, none, 0, 0, some ⟨g, 0, none⟩, n, n⟩
def asksL (o1 p1 o2 p2 g : Nat) (A1 A2 : List UInt8) : List AskV :=
  [wAsk (-1) o1 p1 128 A1, wAsk 64 o1 p1 128 A1, wAsk 0 o1 p1 126 (A1.take 126), wAsk 63 o1 p1 128 A1, wAsk 5 o1 p1 128 A1, wAsk 5 o2 p2 128 A2,
   kAsk 0 0 2 g 2 [false, true], wAsk 7 o2 p2 128 A2, ⟨⟨2, 0, [], [], 0, 0⟩, none, 0, 0, none, 0, 0⟩, wAsk 7 o1 p1 128 A1, cAsk 7 0 2, wAsk 7 o1 p1 128 A1, wAsk 8 o1 p1 128 A1,
   kAsk 7 1 (-5) (g + 1) 3 [true, true, true], wAsk 9 o1 p1 128 A1, cAsk 9 0 500, cAsk 0 0 0]
def cellsOf (y : AskV) : List Value := [.int .i64 y.x.kind, .int .i64 y.x.i, .slice y.ba y.bn y.bc, .slice y.ka y.kn y.kc, .int .i64 y.x.torn, .int .i64 y.x.cut]
def asksC (o1 p1 o2 p2 g : Nat) : Array Value := ((asksL o1 p1 o2 p2 g [] []).flatMap cellsOf).toArray
theorem asks_cell (o1 p1 o2 p2 g : Nat) (A1 A2 : List UInt8) : ∀ (k : Nat) (hk : k < 17), ∃ y, (asksL o1 p1 o2 p2 g A1 A2)[k]? = some y ∧ ∀ j, j < 6 → (asksC o1 p1 o2 p2 g)[k * 6 + j]? = (cellsOf y)[j]? := by
  intro k hk
  have h : ∀ (j : Nat), j < 6 → j = 0 ∨ j = 1 ∨ j = 2 ∨ j = 3 ∨ j = 4 ∨ j = 5 := by omega
  rcases (by omega : k = 0 ∨ k = 1 ∨ k = 2 ∨ k = 3 ∨ k = 4 ∨ k = 5 ∨ k = 6 ∨ k = 7 ∨ k = 8 ∨ k = 9 ∨ k = 10 ∨ k = 11 ∨ k = 12 ∨ k = 13 ∨ k = 14 ∨ k = 15 ∨ k = 16) with rfl | rfl | rfl | rfl | rfl | rfl | rfl | rfl | rfl | rfl | rfl | rfl | rfl | rfl | rfl | rfl | rfl <;>
    exact ⟨_, rfl, fun j hj => by rcases h j hj with rfl | rfl | rfl | rfl | rfl | rfl <;> rfl⟩
/-- One Ask's rows. -/
structure OkAsk (S : Nat → Prop) (w : World) (y : AskV) : Prop where
  b : RowAt S w y.ba y.bn (y.x.b.map bv)
  bc : y.bn ≤ y.bc
  small : y.bn ≤ 140737488351232
  keep : RowAt S w y.ka y.kn (y.x.keep.map Value.bool)
theorem le128 : (128 : Nat) ≤ 140737488351232 := by decide
theorem asks_ok {S : Nat → Prop} {w : World} {o1 p1 o2 p2 g : Nat} {A1 A2 : List UInt8} (h1 : RowAt S w (some ⟨o1, 0, none⟩) 128 (A1.map bv)) (h2 : RowAt S w (some ⟨o2, 0, none⟩) 128 (A2.map bv)) (hp1 : 128 ≤ p1) (hp2 : 128 ≤ p2) (h3 : RowAt S w (some ⟨g, 0, none⟩) 2 ([false, true].map Value.bool)) (h4 : RowAt S w (some ⟨g + 1, 0, none⟩) 3 ([true, true, true].map Value.bool)) : ∀ y ∈ asksL o1 p1 o2 p2 g A1 A2, OkAsk S w y := by
  have w1 : ∀ i, OkAsk S w (wAsk i o1 p1 128 A1) := fun i => ⟨h1, hp1, le128, RowAt.nil _ _ _⟩
  have w2 : ∀ i, OkAsk S w (wAsk i o2 p2 128 A2) := fun i => ⟨h2, hp2, le128, RowAt.nil _ _ _⟩
  have w3 : OkAsk S w (wAsk 0 o1 p1 126 (A1.take 126)) := ⟨by have := h1.take 126; rw [← List.map_take] at this; exact this, by show 126 ≤ p1; omega, Nat.le_trans (by omega : (126 : Nat) ≤ 128) le128, RowAt.nil _ _ _⟩
  have c1 : ∀ i t c, OkAsk S w (cAsk i t c) := fun i t c => ⟨RowAt.nil _ _ _, Nat.zero_le _, Nat.zero_le _, RowAt.nil _ _ _⟩
  have k1 : OkAsk S w (kAsk 0 0 2 g 2 [false, true]) := ⟨RowAt.nil _ _ _, Nat.zero_le _, Nat.zero_le _, h3⟩
  have k2 : OkAsk S w (kAsk 7 1 (-5) (g + 1) 3 [true, true, true]) := ⟨RowAt.nil _ _ _, Nat.zero_le _, Nat.zero_le _, h4⟩
  intro y hy
  simp only [asksL, List.mem_cons, List.not_mem_nil, or_false] at hy
  rcases hy with rfl | rfl | rfl | rfl | rfl | rfl | rfl | rfl | rfl | rfl | rfl | rfl | rfl | rfl | rfl | rfl | rfl
  · exact w1 _
  · exact w1 _
  · exact w3
  · exact w1 _
  · exact w1 _
  · exact w2 _
  · exact k1
  · exact w2 _
  · exact ⟨RowAt.nil _ _ _, Nat.zero_le _, Nat.zero_le _, RowAt.nil _ _ _⟩
  · exact w1 _
  · exact c1 _ _ _
  · exact w1 _
  · exact w1 _
  · exact k2
  · exact w1 _
  · exact c1 _ _ _
  · exact c1 _ _ _
/-- The law's world at the loop. -/
def loopW (w : World) (o1 p1 o2 p2 : Nat) : World :=
  ((w.alloc (.cells #[.bool false, .bool true] 4)).alloc (.cells #[.bool true, .bool true, .bool true] 4)).alloc (.cells (asksC o1 p1 o2 p2 w.heap.size) 45)
theorem loopW_below (w : World) (o1 p1 o2 p2 : Nat) : Below w.heap.size w (loopW w o1 p1 o2 p2) :=
  (((Below.refl _ _).alloc (Nat.le_refl _) _).alloc (by simp) _).alloc (by simp; omega) _
theorem loopW_size (w : World) (o1 p1 o2 p2 : Nat) : (loopW w o1 p1 o2 p2).heap.size = w.heap.size + 3 := by
  simp only [loopW, World.size_alloc]
theorem loopW_cells (w : World) (o1 p1 o2 p2 : Nat) (j : Nat) : (loopW w o1 p1 o2 p2).cell? ⟨w.heap.size + 1 + 1, j, none⟩ = (asksC o1 p1 o2 p2 w.heap.size)[j]? := by
  have h := (MapKept.heap_alloc ((w.alloc (.cells #[.bool false, .bool true] 4)).alloc (.cells #[.bool true, .bool true, .bool true] 4)) (.cells (asksC o1 p1 o2 p2 w.heap.size) 45)).1
  have e : ((w.alloc (.cells #[.bool false, .bool true] 4)).alloc (.cells #[.bool true, .bool true, .bool true] 4)).heap.size = w.heap.size + 1 + 1 := by simp only [World.size_alloc]
  rw [e] at h
  unfold loopW World.cell?
  simp only [h]
  simp
theorem loopW_rows {S : Nat → Prop} (w : World) (o1 p1 o2 p2 : Nat) (hS : ∀ x, w.heap.size ≤ x → x < w.heap.size + 3 → S x) :
    RowAt S (loopW w o1 p1 o2 p2) (some ⟨w.heap.size, 0, none⟩) 2 ([false, true].map Value.bool) ∧ RowAt S (loopW w o1 p1 o2 p2) (some ⟨w.heap.size + 1, 0, none⟩) 3 ([true, true, true].map Value.bool) := by
  have e : (w.alloc (.cells #[.bool false, .bool true] 4)).heap.size = w.heap.size + 1 := by simp only [World.size_alloc]
  have a1 := new_row (w := w) ([false, true].map Value.bool) 4 (by decide)
  have a2 := new_row (w := w.alloc (.cells #[.bool false, .bool true] 4)) ([true, true, true].map Value.bool) 4 (by decide)
  rw [e] at a2
  refine ⟨(a1.below (B := w.heap.size + 1) ?_ (Nat.le_of_eq e)).mono (fun x hx => ?_), (a2.below (B := w.heap.size + 1 + 1) ?_ (by rw [World.size_alloc, e]; exact Nat.le_refl _)).mono (fun x hx => ?_)⟩
  · exact ((Below.refl _ _).alloc (Nat.le_of_eq e.symm) _).alloc (by simp) _
  · subst hx; exact hS _ (by omega) (by omega)
  · exact (Below.refl _ _).alloc (by simp) _
  · subst hx; exact hS _ (by omega) (by omega)
theorem Both2.below {W w w' : World} {P0 Q : Nat → Prop} {d r : Nat} {M : DiskM} (h : Both2 W P0 Q w d r M) (hb : Below w.heap.size w w') : Both2 W P0 Q w' d r M := by
  obtain ⟨sb, mb, s, n, t, Fr, R, hD, hR, hFr, hS, hP0⟩ := h
  exact ⟨sb, mb, s, n, t, Fr, R, hD.grow hb, hR.below hb (Nat.le_refl _), hFr, hS, hP0⟩
/-- New blocks join the law's own. -/
theorem Both2.more {W w w' : World} {P0 Q : Nat → Prop} {d r : Nat} {M : DiskM} (h : Both2 W P0 Q w d r M) (hb : Below w.heap.size w w') :
    Both2 W (fun x => P0 x ∨ (w.heap.size ≤ x ∧ x < w'.heap.size)) (fun x => Q x ∨ (w.heap.size ≤ x ∧ x < w'.heap.size)) w' d r M := by
  obtain ⟨sb, mb, s, n, t, Fr, R, hD, hR, hFr, hS, hP0⟩ := h
  exact ⟨sb, mb, s, n, t, Fr, R, hD.shield hb, hR.below hb (Nat.le_refl _), fun x hx => ⟨.inl (hFr x hx).1, (hFr x hx).2⟩, hS, fun x hx => hx.elim (fun hp => ⟨.inl (hP0 x hp).1, (hP0 x hp).2⟩) (fun hp => ⟨.inr hp, fun hf => by have := hR.low x hf; omega⟩)⟩
theorem Both2.mono {W w : World} {P0 P1 Q : Nat → Prop} {d r : Nat} {M : DiskM} (h : Both2 W P1 Q w d r M) (hp : ∀ x, P0 x → P1 x) : Both2 W P0 Q w d r M := by
  obtain ⟨sb, mb, s, n, t, Fr, R, hD, hR, hFr, hS, hP0⟩ := h
  exact ⟨sb, mb, s, n, t, Fr, R, hD, hR, hFr, hS, fun x hx => hP0 x (hp x hx)⟩
/-- The law's own at the loop: what is elder than the two disks, and what is younger. -/
def Own (W w2 w4 wL : World) (x : Nat) : Prop := (W.heap.size ≤ x ∧ x < w2.heap.size) ∨ (w4.heap.size ≤ x ∧ x < wL.heap.size)
theorem Both2.start {W w2 w3 w4 wL : World} {Fr : Nat → Prop} {d sb mb r s n t : Nat} (hB : Below W.heap.size W w2) (hD : DiskIn w2 (fun _ => False) w3 d sb mb M0) (hB3 : Below w2.heap.size w2 w3) (hR : RefAt Fr w4 r s n t R0) (hF : ∀ x, Fr x → w3.heap.size ≤ x) (hB4 : Below w3.heap.size w3 w4) (hBL : Below w4.heap.size w4 wL) :
    Both2 W (Own W w2 w4 wL) (fun x => Own W w2 w4 wL x ∨ (w3.heap.size ≤ x ∧ x < w4.heap.size)) wL d r M0 := by
  obtain ⟨F, l, hA, hFd⟩ := hD.at_
  have h23 := hB3.size
  have h34 := hB4.size
  have h4L := hBL.size
  have hW2 := hB.size
  have hBW3 : Below W.heap.size W w3 := hB.trans (hB3.mono hW2)
  have hBW4 : Below W.heap.size W w4 := hBW3.trans (hB4.mono (by omega))
  have hBWL : Below W.heap.size W wL := hBW4.trans (hBL.mono (by omega))
  refine ⟨sb, mb, s, n, t, Fr, R0, ⟨⟨F, l, (hA.below hB4 (Nat.le_refl _)).below hBL (Nat.le_refl _), fun x hx => ?_⟩, hBWL, fun x hx => ?_⟩, hR.below hBL (Nat.le_refl _), fun x hx => ?_, sim0.c, fun x hx => ?_⟩
  · have h1 := (hFd x hx).1
    have h2 := hA.low x hx
    refine ⟨by omega, fun hp => ?_⟩
    rcases hp with (hp | hp) | hp <;> omega
  · rcases hx with (hp | hp) | hp <;> omega
  · have h1 := hF x hx
    have h2 := hR.low x hx
    exact ⟨.inr ⟨h1, h2⟩, by omega⟩
  · refine ⟨.inl hx, fun hf => ?_⟩
    have h1 := hF x hf
    have h2 := hR.low x hf
    rcases hx with hp | hp <;> omega
/-- The loop's own variable. -/
theorem askW (wr : World) (v0 v1 v2 v3 v4 v5 : Value) : Below wr.heap.size wr (wr.alloc (.cells #[v0, v1, v2, v3, v4, v5] 45)).drew ∧ ∀ j, (wr.alloc (.cells #[v0, v1, v2, v3, v4, v5] 45)).drew.cell? ⟨wr.heap.size, j, none⟩ = [v0, v1, v2, v3, v4, v5][j]? := by
  refine ⟨((Below.refl _ _).alloc (Nat.le_refl _) _).drew, fun j => ?_⟩
  have h : (wr.alloc (.cells #[v0, v1, v2, v3, v4, v5] 45)).drew.heap[wr.heap.size]? = some (.cells #[v0, v1, v2, v3, v4, v5] 45) := (MapKept.heap_alloc wr (.cells #[v0, v1, v2, v3, v4, v5] 45)).1
  unfold World.cell?
  simp only [h]
  simp
theorem sized_take (bs : List UInt8) (n m : Nat) (hm : bs.length = m) (hn : m ≤ n) : (sizedL bs n).take m = bs := by
  subst hm
  unfold sizedL
  rw [List.take_of_length_le hn, List.take_left]
def bImage : List UInt8 := [105, 109, 97, 103, 101]
def IMG : List UInt8 := sizedL bImage 8320
theorem img_len : IMG.length = 8320 := sizedL_len _ _
theorem x_read : (readOf ⟨IMG, [], 0⟩ 0).take 5 = bImage := by
  have h : readOf ⟨IMG, [], 0⟩ 0 = (IMG.drop 0).take 128 := rfl
  rw [h, List.drop_zero, List.take_take]
  exact sized_take bImage 8320 5 rfl (by omega)
theorem x_sec : isSec ⟨IMG, [], 0⟩ 0 := by
  have h : ∀ M : DiskM, M.safe.length = 8320 → isSec M 0 := fun M hM => by unfold isSec; rw [hM]; omega
  exact h _ img_len
theorem x_image : strOf bImage = ⟨#[105, 109, 97, 103, 101]⟩ := rfl
end Go.Proofs.Ytkdomgiabiedlaa
