/- Snapshots, as plain data; in memory. -/
import Derived.Test.YtpgklnhkfgbpgaaGreatDoorM17
import Derived.Test.YtpgklnhkfgbpgaaGreatDoorM23
namespace Go.Proofs.YtpgklnhkfgbpgaaGreatDoor
open Go.ChangeShapes Go.WideShapes Go.ChangeAt Go.RowKit
set_option linter.unusedVariables false
set_option linter.unusedSimpArgs false

structure OneM where
  id : Int
  hash : List UInt8
  t : TrM
structure SnM where
  l : List OneM
  next : Int
  last : List UInt8
def newSn : SnM := ⟨[], 1, []⟩
/-- A snapshot in memory: its hash, and its tree, are turned no more. -/
def OneAt (o : Mark) (w : World) (vs : List Value) (x : OneM) : Prop :=
  ∃ a c q, vs = [.int .i64 x.id, .slice a x.hash.length c, ptr q] ∧ x.hash.length ≤ c ∧ RowAt (fun b => o b = 0 ∧ b < w.heap.size) w a x.hash.length (x.hash.map bv) ∧ TreeO o 0 w q x.t ∧ OkM x.t
def OnesAt (o : Mark) (w : World) : List Value → List OneM → Prop
  | vs, [] => vs = []
  | vs, x :: r => ∃ v1 v2, vs = v1 ++ v2 ∧ OneAt o w v1 x ∧ OnesAt o w v2 r
structure SnapsO (o : Mark) (i : Nat) (w : World) (s : Nat) (S : SnM) : Prop where
  at_ : ∃ v la lc vals, w.heap[s]? = some (.cells #[v, .int .i64 S.next, .slice la S.last.length lc] 104 (0, 0)) ∧ o s = i ∧ s < w.heap.size ∧
    w.ownsRow 0 108 3 v S.l.length vals ∧ (∀ b, v.ownBlock = some b → o b = i ∧ b ≠ s ∧ b < w.heap.size) ∧ OnesAt o w vals S.l ∧
    S.last.length ≤ lc ∧ RowAt (fun b => o b = 0 ∧ b < w.heap.size) w la S.last.length (S.last.map bv)
theorem OneAt.step {o o' : Mark} {I : Nat → Prop} {w w' : World} {vs : List Value} {x : OneM} (h : OneAt o w vs x) (hi : ¬ I 0) (hs : Step o I w o' w') : OneAt o' w' vs x := by
  obtain ⟨a, c, q, h1, h2, h3, h4, h5⟩ := h
  exact ⟨a, c, q, h1, h2, h3.move hs.keep.size fun b hb hbw => ⟨⟨(hs.old b hb.2).trans hb.1, Nat.lt_of_lt_of_le hb.2 hs.keep.size⟩, hs.block hb.2 (by rw [hb.1]; exact hi)⟩, h4.step hi hi hs, h5⟩
theorem OnesAt.step {o o' : Mark} {I : Nat → Prop} {w w' : World} (hi : ¬ I 0) (hs : Step o I w o' w') : ∀ {vs : List Value} {l : List OneM}, OnesAt o w vs l → OnesAt o' w' vs l
  | _, [], h => h
  | _, x :: r, ⟨v1, v2, h1, h2, h3⟩ => ⟨v1, v2, h1, h2.step hi hs, OnesAt.step hi hs h3⟩
theorem OneAt.grow {o : Mark} {w w' : World} {vs : List Value} {x : OneM} (h : OneAt o w vs x) (hb : Below w.heap.size w w') : OneAt o w' vs x := by
  obtain ⟨a, c, q, h1, h2, h3, h4, h5⟩ := h
  exact ⟨a, c, q, h1, h2, h3.move hb.size fun b hb' hbw => ⟨⟨hb'.1, Nat.lt_of_lt_of_le hb'.2 hb.size⟩, hb.block b hbw⟩, h4.grow hb, h5⟩
theorem OnesAt.grow {o : Mark} {w w' : World} (hb : Below w.heap.size w w') : ∀ {vs : List Value} {l : List OneM}, OnesAt o w vs l → OnesAt o w' vs l
  | _, [], h => h
  | _, x :: r, ⟨v1, v2, h1, h2, h3⟩ => ⟨v1, v2, h1, h2.grow hb, OnesAt.grow hb h3⟩
theorem OneAt.len {o : Mark} {w : World} {vs : List Value} {x : OneM} (h : OneAt o w vs x) : vs.length = 3 := by
  obtain ⟨a, c, q, h1, _⟩ := h
  rw [h1]; rfl
theorem OnesAt.len {o : Mark} {w : World} : ∀ {vs : List Value} {l : List OneM}, OnesAt o w vs l → vs.length = l.length * 3
  | _, [], h => by have h1 : _ = [] := h; rw [h1]; rfl
  | _, x :: r, ⟨v1, v2, h1, h2, h3⟩ => by
    rw [h1, List.length_append, h2.len, h3.len, List.length_cons]
    omega
theorem OnesAt.append {o : Mark} {w : World} : ∀ {vs us : List Value} {l m : List OneM}, OnesAt o w vs l → OnesAt o w us m → OnesAt o w (vs ++ us) (l ++ m)
  | _, _, [], _, h, k => by have h1 : _ = [] := h; rw [h1]; exact k
  | _, _, x :: r, _, ⟨v1, v2, h1, h2, h3⟩, k => ⟨v1, v2 ++ _, by rw [h1, List.append_assoc], h2, h3.append k⟩
/-- The one at a place. -/
theorem OnesAt.at_ {o : Mark} {w : World} : ∀ {vs : List Value} {l : List OneM} {k : Nat} {x : OneM}, OnesAt o w vs l → l[k]? = some x → ∃ a c q, vs[k * 3]? = some (.int .i64 x.id) ∧ vs[k * 3 + 1]? = some (.slice a x.hash.length c) ∧ vs[k * 3 + 2]? = some (ptr q) ∧ x.hash.length ≤ c ∧ RowAt (fun b => o b = 0 ∧ b < w.heap.size) w a x.hash.length (x.hash.map bv) ∧ TreeO o 0 w q x.t ∧ OkM x.t
  | _, [], k, x, _, hx => by simp at hx
  | _, y :: r, 0, x, ⟨v1, v2, h1, h2, h3⟩, hx => by
    have hyx : y = x := Option.some.inj hx
    subst hyx
    obtain ⟨a, c, q, e1, e2, e3, e4, e5⟩ := h2
    subst e1 h1
    exact ⟨a, c, q, rfl, rfl, rfl, e2, e3, e4, e5⟩
  | _, y :: r, k + 1, x, ⟨v1, v2, h1, h2, h3⟩, hx => by
    obtain ⟨a, c, q, e1, e2, e3, e4⟩ := OnesAt.at_ h3 (k := k) (x := x) (by simpa using hx)
    have hl := h2.len
    subst h1
    refine ⟨a, c, q, ?_, ?_, ?_, e4⟩
    · rw [List.getElem?_append_right (by omega), ← e1]; congr 1; omega
    · rw [List.getElem?_append_right (by omega), ← e2]; congr 1; omega
    · rw [List.getElem?_append_right (by omega), ← e3]; congr 1; omega
/-- Some of them. -/
theorem OnesAt.take {o : Mark} {w : World} : ∀ {vs : List Value} {l : List OneM} (k : Nat), OnesAt o w vs l → OnesAt o w (vs.take (k * 3)) (l.take k)
  | _, [], k, h => by have h1 : _ = [] := h; rw [h1]; simp; exact rfl
  | _, y :: r, 0, _ => by simp; exact rfl
  | _, y :: r, k + 1, ⟨v1, v2, h1, h2, h3⟩ => by
    subst h1
    have hl := h2.len
    refine ⟨v1, v2.take (k * 3), ?_, h2, h3.take k⟩
    rw [List.take_append, List.take_of_length_le (by omega)]
    congr 2
    omega
theorem OnesAt.drop {o : Mark} {w : World} : ∀ {vs : List Value} {l : List OneM} (k : Nat), OnesAt o w vs l → OnesAt o w (vs.drop (k * 3)) (l.drop k)
  | _, [], k, h => by have h1 : _ = [] := h; rw [h1]; simp; exact rfl
  | _, y :: r, 0, h => by simpa using h
  | _, y :: r, k + 1, ⟨v1, v2, h1, h2, h3⟩ => by
    subst h1
    have hl := h2.len
    have h4 := h3.drop k
    rw [List.drop_append, List.drop_eq_nil_of_le (by omega)]
    have e : (k + 1) * 3 - v1.length = k * 3 := by omega
    rw [e]
    exact h4
theorem SnapsO.step {o o' : Mark} {I : Nat → Prop} {j : Nat} {w w' : World} {s : Nat} {S : SnM} (h : SnapsO o j w s S) (hi : ¬ I 0) (hj : ¬ I j) (hs : Step o I w o' w') : SnapsO o' j w' s S := by
  obtain ⟨v, la, lc, vals, h1, h2, h3, h4, h5, h6, h7, h8⟩ := h.at_
  refine ⟨v, la, lc, vals, (hs.block h3 (by rw [h2]; exact hj)).trans h1, (hs.old s h3).trans h2, Nat.lt_of_lt_of_le h3 hs.keep.size, ?_, fun b hb => ?_, h6.step hi hs, h7, h8.move hs.keep.size fun b hb hbw => ⟨⟨(hs.old b hb.2).trans hb.1, Nat.lt_of_lt_of_le hb.2 hs.keep.size⟩, hs.block hb.2 (by rw [hb.1]; exact hi)⟩⟩
  · obtain ⟨k1, k2⟩ := h4
    refine ⟨k1, ?_⟩
    rcases k2 with k2 | ⟨g, cap, cur, e1, e2, e3, e4⟩
    · exact .inl k2
    · have h9 := h5 g (by rw [e1]; rfl)
      exact .inr ⟨g, cap, cur, e1, e2, (hs.block h9.2.2 (by rw [h9.1]; exact hj)).trans e3, e4⟩
  · obtain ⟨k1, k2, k3⟩ := h5 b hb
    exact ⟨(hs.old b k3).trans k1, k2, Nat.lt_of_lt_of_le k3 hs.keep.size⟩
end Go.Proofs.YtpgklnhkfgbpgaaGreatDoor
