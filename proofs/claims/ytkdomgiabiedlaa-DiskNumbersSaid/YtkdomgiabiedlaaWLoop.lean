/- disk: loops of writes; disks that are left alone. -/
import Derived.Test.YtkdomgiabiedlaaDiskP
import Derived.Test.YtkdomgiabiedlaaAsk
import Derived.Test.YtkdomgiabiedlaaWithin
import Derived.Deep.RegionHeld3
import Derived.Deep.CutBlock
import Derived.Deep.DeepCutAuto
namespace Go.Proofs.Ytkdomgiabiedlaa
open Go.ChangeShapes Go.WideShapes Go.ChangeAt Go.RowKit
set_option linter.unusedVariables false

/-- While rows are written. -/
def WLoop (W : World) (P : Nat → Prop) (w0 : World) (d sb mb : Nat) (S0 : List UInt8) (c0 : Int) (i : Value) (wr : World) : Prop :=
  ∃ (k : Nat) (M : DiskM), i = .int .i64 k ∧ k ≤ 20 ∧ DiskIn W P wr d sb mb M ∧ Ok64 M ∧ M.safe = S0 ∧ M.writes ≤ c0 + k ∧ Keeps (Wild W P) w0 wr
theorem wloop_step {W : World} {P : Nat → Prop} {w0 wr w3 w4 : World} {d sb mb : Nat} {S0 : List UInt8} {c0 : Int} {k : Nat} {M : DiskM} {z : Int} {bs : List UInt8} (hk : k < 20) (hz : 0 ≤ z ∧ z ≤ 63) (hb : bs.length = 128) (hok : Ok64 M) (hs : M.safe = S0) (hw : M.writes ≤ c0 + k)
    (hK : Keeps (Wild W P) w0 wr) (hlow : ∀ x, P x → x < wr.heap.size) (hBW : W.heap.size ≤ wr.heap.size) (hB : Below wr.heap.size wr w3) (hD : DiskIn W P w4 d sb mb (writeM M z bs)) (hK4 : Keeps (Wild W P) w3 w4) : WLoop W P w0 d sb mb S0 c0 (.int .i64 ((k : Int) + 1)) w4 := by
  have hsec : isSec M z := isSec64 hok.1 (by omega) (by omega)
  refine ⟨k + 1, writeM M z bs, by go_num, by omega, hD, hok.write hsec hb, by rw [writeM_safe]; exact hs, by rw [writeM_ok hsec hb]; show M.writes + 1 ≤ _; omega, ?_⟩
  refine (hK.trans (Keeps.below hB) fun x hx h => ?_).trans hK4 fun x _ h => h
  have := hK.size
  omega

/-- Rows have been written. -/
def WDone (W : World) (P : Nat → Prop) (w0 : World) (d sb mb : Nat) (S0 : List UInt8) (c0 : Int) (wr : World) : Prop :=
  ∃ M : DiskM, DiskIn W P wr d sb mb M ∧ Ok64 M ∧ M.safe = S0 ∧ M.writes ≤ c0 + 20 ∧ Keeps (Wild W P) w0 wr
/-- What is not the disk's may be turned. -/
theorem DiskIn.touch {W w w' : World} {P fp : Nat → Prop} {d sb mb : Nat} {M : DiskM} (h : DiskIn W P w d sb mb M) (hk : Keeps fp w w') (hf : ∀ x, fp x → P x ∧ W.heap.size ≤ x) : DiskIn W P w' d sb mb M := by
  obtain ⟨F, l, hD, hF⟩ := h.at_
  have hkk : ∀ x, F x → w'.heap[x]? = w.heap[x]? := fun x hx => hk.block x (hD.low x hx) (fun hp => (hF x hx).2 (hf x hp).1)
  exact ⟨⟨F, l, ⟨(hkk _ hD.own.1).trans hD.head, (hkk _ hD.own.2.1).trans hD.safe, hD.len, hD.map.kept (hkk _ hD.own.2.2), hD.sorted, fun k => (hD.rows k).imp fun x y hr => hr.move fun b hb' _ => ⟨hb', hkk _ hb'.1⟩, hD.range, hD.own, hD.apart, fun x hx => Nat.lt_of_lt_of_le (hD.low x hx) hk.size, hD.writes⟩, hF⟩,
    h.below.trans (hk.low h.below.size fun x hx => (hf x hx).2), fun x hx => Nat.lt_of_lt_of_le (h.low x hx) hk.size⟩
theorem DiskAt.keeps {F fp : Nat → Prop} {d sb mb : Nat} {l : List (Int × Value)} {M : DiskM} {w w' : World} (hD : DiskAt F w d sb mb l M) (hk : Keeps fp w w') (hn : ∀ x, F x → ¬ fp x) : DiskAt F w' d sb mb l M := by
  have hkk : ∀ x, F x → w'.heap[x]? = w.heap[x]? := fun x hx => hk.block x (hD.low x hx) (hn x hx)
  exact ⟨(hkk _ hD.own.1).trans hD.head, (hkk _ hD.own.2.1).trans hD.safe, hD.len, hD.map.kept (hkk _ hD.own.2.2), hD.sorted, fun k => (hD.rows k).imp fun x y hr => hr.move fun b hb' _ => ⟨hb', hkk _ hb'.1⟩, hD.range, hD.own, hD.apart, fun x hx => Nat.lt_of_lt_of_le (hD.low x hx) hk.size, hD.writes⟩
theorem DiskIn.raw {W w : World} {F : Nat → Prop} {d sb mb : Nat} {l : List (Int × Value)} {M : DiskM} (hD : DiskAt F w d sb mb l M) (hF : ∀ x, F x → W.heap.size ≤ x) (hB : Below W.heap.size W w) : DiskIn W (fun _ => False) w d sb mb M :=
  ⟨⟨F, l, hD, fun x hx => ⟨hF x hx, id⟩⟩, hB, fun _ h => h.elim⟩
/-- Image and Read, the row known whole. -/
theorem in_imageV {W w : World} {P : Nat → Prop} {d sb mb : Nat} {M : DiskM} (h : DiskIn W P w d sb mb M) (n : Nat) (bs : List UInt8) (hn : M.safe.length = n) (hb : imgM M = bs) :
    Calls Try.prog 22 #[.pointer (some ⟨d, 0, none⟩)] w fun e w' => ∃ g c cur, e = .returned (.slice (some ⟨g, 0, none⟩) n c) ∧ w.heap.size ≤ g ∧ w'.heap[g]? = some (.cells cur 5 (0, 0)) ∧ cur.toList.take n = bs.map bv ∧ n ≤ c ∧ c ≤ maxLen ∧ Below w.heap.size w w' := by
  obtain ⟨F, l, hD, hF⟩ := h.at_
  have hl := imgM_len hD
  refine (dimage_any w hD).mono ?_
  rintro e w' ⟨v, rfl, ⟨_, g, c, cur, rfl, hg, hcur, htk, h1, h2, h3⟩, hB⟩
  rw [hl, hn] at htk h1 ⊢
  rw [hb] at htk
  exact ⟨g, c, cur, rfl, hg.1, hcur, htk, h1, h2, hB⟩
theorem in_readV {W w : World} {P : Nat → Prop} {d sb mb : Nat} {M : DiskM} (h : DiskIn W P w d sb mb M) (j : Nat) (i : Int) (hj : i = j) (bs : List UInt8) (hi : isSec M i) (hb : readOf M i = bs) :
    Calls Try.prog 17 #[.pointer (some ⟨d, 0, none⟩), .int .i64 i] w fun e w' => ∃ g c cur, e = .returned (.tuple #[.slice (some ⟨g, 0, none⟩) 128 c, .int .i64 0]) ∧ w.heap.size ≤ g ∧ w'.heap[g]? = some (.cells cur 5 (0, 0)) ∧ cur.toList.take 128 = bs.map bv ∧ 128 ≤ c ∧ c ≤ maxLen ∧ Below w.heap.size w w' := by
  obtain ⟨F, l, hD, hF⟩ := h.at_
  subst hj
  subst hb
  refine (dread_some j hi w hD).mono ?_
  rintro e w' ⟨v, rfl, ⟨_, g, c, cur, rfl, hg, hcur, htk, h1, h2, h3⟩, hB⟩
  exact ⟨g, c, cur, rfl, hg.1, hcur, htk, h1, h2, hB⟩
theorem dof_at {S : Nat → Prop} (a : Option Addr) (len cap n : Nat) (bs : List UInt8) (w : World) (hr : RowAt S w a len (bs.map bv)) (hn : len = n * 128) (h1 : 64 ≤ n) (h2 : n ≤ 4096) :
    Calls Try.prog 23 #[.slice a len cap] w (NewDisk w ⟨bs, [], 0⟩) := by
  have hl : bs.length = len := by have := hr.length; simpa using this
  obtain ⟨b, off, rfl, _, hb, _⟩ := hr.at_ (by omega)
  subst hn
  exact dof_some b off n cap bs hl h1 h2 w hr.cells hb
theorem row_take {S : Nat → Prop} {w : World} {g n : Nat} {cur : Array Value} {bs : List UInt8} (h : w.heap[g]? = some (.cells cur 5 (0, 0))) (ht : cur.toList.take n = bs.map bv) (hl : bs.length = n) (hn : n ≤ maxLen) (hS : S g) : RowAt S w (some ⟨g, 0, none⟩) n (bs.map bv) := by
  refine ⟨by simpa using hl, hn, fun _ => ⟨g, 0, rfl, hS, (Array.getElem?_eq_some_iff.1 h).1, fun i hi => ?_⟩⟩
  simp only [World.cell?, h, Nat.zero_add]
  rw [← ht, List.getElem?_take, if_pos hi]
  simp
/-- A block of bytes, some of them turned. -/
def Bytes8 (w : World) (g n : Nat) : Prop := ∃ cur : Array Value, w.heap[g]? = some (.cells cur 5 (0, 0)) ∧ ∀ j, j < n → ∃ z : Int, cur[j]? = some (.int .u8 z) ∧ 0 ≤ z ∧ z ≤ 255
theorem Bytes8.of_take {w : World} {g n : Nat} {cur : Array Value} {bs : List UInt8} (h : w.heap[g]? = some (.cells cur 5 (0, 0))) (ht : cur.toList.take n = bs.map bv) (hl : bs.length = n) : Bytes8 w g n := by
  refine ⟨cur, h, fun j hj => ⟨(bs[j]'(by omega)).toNat, ?_, by omega, by have := (bs[j]'(by omega)).toNat_lt; omega⟩⟩
  have h1 : (cur.toList.take n)[j]? = some (bv (bs[j]'(by omega))) := by rw [ht, List.getElem?_map, List.getElem?_eq_getElem (by omega)]; rfl
  rw [List.getElem?_take, if_pos hj] at h1
  simpa using h1
theorem Bytes8.cell {w : World} {g n : Nat} (h : Bytes8 w g n) {j : Nat} (hj : j < n) : ∃ z : Int, w.cell? ⟨g, j, none⟩ = some (.int .u8 z) ∧ 0 ≤ z ∧ z ≤ 255 ∧ w.frozen? ⟨g, j, none⟩ = false := by
  obtain ⟨cur, hc, hz⟩ := h
  obtain ⟨z, h1, h2, h3⟩ := hz j hj
  exact ⟨z, by simp [World.cell?, hc, h1], h2, h3, by simp [World.frozen?, hc]⟩
theorem Bytes8.set_ {w : World} {g n j : Nat} (h : Bytes8 w g n) (z : Int) (h0 : 0 ≤ z) (h1 : z ≤ 255) : Bytes8 (w.setCell ⟨g, j, none⟩ (.int .u8 z)) g n := by
  obtain ⟨cur, hc, hz⟩ := h
  refine ⟨_, heap_set_same hc, fun i hi => ?_⟩
  obtain ⟨y, e1, e2, e3⟩ := hz i hi
  by_cases hij : j = i
  · subst hij
    have : j < cur.size := (Array.getElem?_eq_some_iff.1 e1).1
    exact ⟨z, by simp [this], h0, h1⟩
  · exact ⟨y, by rw [Array.getElem?_setIfInBounds_ne hij]; exact e1, e2, e3⟩
theorem wrap_u8 (n : Int) : 0 ≤ IntKind.u8.wrap n ∧ IntKind.u8.wrap n ≤ 255 := by
  have h : (Lit.int .u8 (IntKind.u8.wrap n)).wf = true := wf_wrap _ _
  simp [Lit.wf, IntKind.min, IntKind.max, IntKind.signed, IntKind.bits] at h
  omega
theorem crash_clean {M : DiskM} (hd : M.dirty = []) (h : M.safe.length % 128 = 0) (keep : List Bool) (torn cut : Int) : crashM M keep torn cut = ⟨M.safe, [], M.writes⟩ := by
  unfold crashM
  rw [mix_congr (g := rowsOf M.safe), mix_rowsOf (by omega)]
  intro i hi
  unfold crashRow dkeys
  rw [hd]
  rfl
theorem readOf_other {M : DiskM} {i : Int} (h : ¬ i ∈ dkeys M) : aget i M.dirty = none := by
  rw [aget_none]
  intro p hp e
  exact h (List.mem_map.2 ⟨p, hp, e⟩)
end Go.Proofs.Ytkdomgiabiedlaa
