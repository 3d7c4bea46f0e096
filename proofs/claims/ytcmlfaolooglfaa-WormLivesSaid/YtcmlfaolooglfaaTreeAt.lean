/- A tree in memory; what turns it. -/
import Derived.Test.YtcmlfaolooglfaaTreeM
import Derived.Test.YtcmlfaolooglfaaIntK
namespace Go.Proofs.Ytcmlfaolooglfaa
open Go.ChangeShapes Go.WideShapes Go.ChangeAt Go.RowKit
set_option linter.unusedVariables false
set_option linter.unusedSimpArgs false

/-- What a block is to a tree. -/
inductive Own where
  | none
  | head
  | items
  | item (k : Int)
  | names (k : Int)
abbrev ptr (b : Nat) : Value := .pointer (some ⟨b, 0, none⟩)
def namesV (x : ItM) (nb : Nat) : Value := if x.kind = 2 then .map (some nb) else .map none
def itemCells (k : Int) (x : ItM) (a : Option Addr) (c nb : Nat) : Array Value :=
  #[.int .i64 k, .int .i64 x.kind, .int .i64 x.links, .int .i64 x.b.length, .int .u64 x.til, .bool x.closed, .slice a x.b.length c, namesV x nb]
def nameL (x : ItM) : List (Nm × Value) := x.names.map fun e => (e.1, .int .i64 e.2)
/-- A length and a capacity. -/
def CapOk (n c : Nat) : Prop := n ≤ c ∧ c ≤ maxLen
structure ItemAt (D : Nat → Prop) (w : World) (k : Int) (ib nb : Nat) (x : ItM) : Prop where
  cells : ∃ a c, w.heap[ib]? = some (.cells (itemCells k x a c nb) 61 (0, 0)) ∧ CapOk x.b.length c ∧ RowAt D w a x.b.length (x.b.map bv)
  names : x.kind = 2 → MapAt strK w nb (nameL x)
structure TreeAt (g : Nat → Own) (D : Nat → Prop) (w : World) (p mb : Nat) (ib nb : Int → Nat) (T : TrM) : Prop where
  head : w.heap[p]? = some (.cells #[.map (some mb)] 53 (0, 0))
  map : MapAt intK w mb (T.map fun q => (q.1, ptr (ib q.1)))
  item : ∀ k x, aget k T = some x → ItemAt D w k (ib k) (nb k) x
  tagp : g p = .head
  tagm : g mb = .items
  tagi : ∀ k x, aget k T = some x → g (ib k) = .item k
  tagn : ∀ k x, aget k T = some x → x.kind = 2 → g (nb k) = .names k
  data : ∀ b, D b → g b = .none
  low : ∀ b, g b ≠ .none → b < w.heap.size
  dlow : ∀ b, D b → b < w.heap.size

theorem ItemAt.move {D D' : Nat → Prop} {w w' : World} {k : Int} {ib nb : Nat} {x : ItM} (h : ItemAt D w k ib nb x) (hs : w.heap.size ≤ w'.heap.size) (hi : w'.heap[ib]? = w.heap[ib]?) (hn : x.kind = 2 → w'.heap[nb]? = w.heap[nb]?) (hD : ∀ b, D b → b < w.heap.size → D' b ∧ w'.heap[b]? = w.heap[b]?) : ItemAt D' w' k ib nb x := by
  obtain ⟨⟨a, c, h1, h2, h3⟩, h4⟩ := h
  exact ⟨⟨a, c, hi.trans h1, h2, h3.move hs hD⟩, fun hk => (h4 hk).kept (hn hk)⟩
theorem TreeAt.keeps {g : Nat → Own} {D fp : Nat → Prop} {w w' : World} {p mb : Nat} {ib nb : Int → Nat} {T : TrM} (h : TreeAt g D w p mb ib nb T) (hK : Keeps fp w w') (hn : ∀ b, g b ≠ .none ∨ D b → ¬ fp b) : TreeAt g D w' p mb ib nb T := by
  have hb : ∀ b, g b ≠ .none → w'.heap[b]? = w.heap[b]? := fun b hb => hK.block b (h.low b hb) (hn b (.inl hb))
  refine ⟨(hb p (by rw [h.tagp]; simp)).trans h.head, h.map.kept (hb mb (by rw [h.tagm]; simp)), fun k x hx => (h.item k x hx).move hK.size (hb _ (by rw [h.tagi k x hx]; simp)) (fun hk => hb _ (by rw [h.tagn k x hx hk]; simp)) fun b hb hbw => ⟨hb, hK.block b hbw (hn b (.inr hb))⟩,
    h.tagp, h.tagm, h.tagi, h.tagn, h.data, fun b hb => Nat.lt_of_lt_of_le (h.low b hb) hK.size, fun b hb => Nat.lt_of_lt_of_le (h.dlow b hb) hK.size⟩
theorem TreeAt.below {g : Nat → Own} {D : Nat → Prop} {w w' : World} {B p mb : Nat} {ib nb : Int → Nat} {T : TrM} (h : TreeAt g D w p mb ib nb T) (hb : Below B w w') (hB : w.heap.size ≤ B) : TreeAt g D w' p mb ib nb T :=
  h.keeps (fp := fun x => B ≤ x) (Keeps.below hb) fun b hx hf => by
    rcases hx with hx | hx
    · have := h.low b hx; omega
    · have := h.dlow b hx; omega
/-- One node is turned. -/
theorem TreeAt.amod {g : Nat → Own} {D D' : Nat → Prop} {w w' : World} {p mb : Nat} {ib nb : Int → Nat} {T : TrM} (h : TreeAt g D w p mb ib nb T) {k : Int} {x : ItM} {f : ItM → ItM} (hx : aget k T = some x) (hfk : (f x).kind = x.kind)
    (hD : ∀ b, D b → D' b) (hD' : ∀ b, D' b → g b = .none ∧ b < w'.heap.size) (hsz : w.heap.size ≤ w'.heap.size) (hb : ∀ b, b < w.heap.size → g b ≠ .item k → g b ≠ .names k → w'.heap[b]? = w.heap[b]?) (hi : ItemAt D' w' k (ib k) (nb k) (f x)) :
    TreeAt g D' w' p mb ib nb (amod k f T) := by
  refine ⟨(hb p (h.low p (by rw [h.tagp]; simp)) (by rw [h.tagp]; simp) (by rw [h.tagp]; simp)).trans h.head, ?_, ?_, h.tagp, h.tagm, ?_, ?_, fun b hb => (hD' b hb).1, fun b hb => Nat.lt_of_lt_of_le (h.low b hb) hsz, fun b hb => (hD' b hb).2⟩
  · have := h.map.kept (hb mb (h.low mb (by rw [h.tagm]; simp)) (by rw [h.tagm]; simp) (by rw [h.tagm]; simp))
    rw [amod_keys k f T (fun j => ptr (ib j))]
    exact this
  · intro j y hy
    rw [aget_amod] at hy
    by_cases hj : j = k
    · subst hj
      rw [if_pos rfl, hx] at hy
      simp only [Option.map_some, Option.some.injEq] at hy
      subst hy
      exact hi
    · rw [if_neg hj] at hy
      refine (h.item j y hy).move hsz (hb _ (h.low _ (by rw [h.tagi j y hy]; simp)) (by rw [h.tagi j y hy]; simpa using hj) (by rw [h.tagi j y hy]; simp)) (fun hk => hb _ (h.low _ (by rw [h.tagn j y hy hk]; simp)) (by rw [h.tagn j y hy hk]; simp) (by rw [h.tagn j y hy hk]; simpa using hj)) ?_
      intro b hDb hbw
      refine ⟨hD b hDb, hb b hbw ?_ ?_⟩ <;> rw [h.data b hDb] <;> simp
  · intro j y hy
    rw [aget_amod] at hy
    by_cases hj : j = k
    · subst hj; exact h.tagi j x hx
    · rw [if_neg hj] at hy; exact h.tagi j y hy
  · intro j y hy hk
    rw [aget_amod] at hy
    by_cases hj : j = k
    · subst hj
      rw [if_pos rfl, hx] at hy
      simp only [Option.map_some, Option.some.injEq] at hy
      subst hy
      exact h.tagn j x hx (hfk ▸ hk)
    · rw [if_neg hj] at hy; exact h.tagn j y hy hk
theorem ains_mapK {κ α β : Type} (lt : κ → κ → Bool) (f : κ → α → β) (x : κ × α) : ∀ l : List (κ × α), (ains lt x l).map (fun p => (p.1, f p.1 p.2)) = ains lt (x.1, f x.1 x.2) (l.map fun p => (p.1, f p.1 p.2))
  | [] => rfl
  | y :: r => by
    unfold ains
    simp only [List.map_cons]
    split <;> simp [ains_mapK lt f x r]
theorem adel_mapK {κ α β : Type} [DecidableEq κ] (f : κ → α → β) (k : κ) (l : List (κ × α)) : (adel k l).map (fun p => (p.1, f p.1 p.2)) = adel k (l.map fun p => (p.1, f p.1 p.2)) := by
  simp [adel, List.filter_map, Function.comp_def]
theorem aput_mapK {κ α β : Type} [DecidableEq κ] (lt : κ → κ → Bool) (f : κ → α → β) (k : κ) (v : α) (l : List (κ × α)) : (aput lt k v l).map (fun p => (p.1, f p.1 p.2)) = aput lt k (f k v) (l.map fun p => (p.1, f p.1 p.2)) := by
  simp only [aput, ains_mapK, adel_mapK]
theorem aget_aput {κ α : Type} [DecidableEq κ] (lt : κ → κ → Bool) (k j : κ) (v : α) (l : List (κ × α)) : aget j (aput lt k v l) = if j = k then some v else aget j l := by
  by_cases h : j = k
  · subst h; rw [if_pos rfl, aget_aput_same]
  · rw [if_neg h, aget_aput_other lt h]
theorem aget_adel {κ α : Type} [DecidableEq κ] (k j : κ) (l : List (κ × α)) : aget j (adel k l) = if j = k then none else aget j l := by
  by_cases h : j = k
  · subst h; rw [if_pos rfl, aget_adel_same]
  · rw [if_neg h, aget_adel_other h]
/-- A node is new. -/
theorem TreeAt.add {g : Nat → Own} {D : Nat → Prop} {w w' : World} {p mb : Nat} {ib nb : Int → Nat} {T : TrM} (h : TreeAt g D w p mb ib nb T) {k : Int} {x : ItM} {i n : Nat} (hi0 : w.heap.size ≤ i) (hn0 : w.heap.size ≤ n) (hin : i ≠ n) (hiw : i < w'.heap.size) (hnw : x.kind = 2 → n < w'.heap.size) (hx0 : aget k T = none) (hxb : x.b = [])
    (hm : MapAt intK w' mb (aput ilt k (ptr i) (T.map fun q => (q.1, ptr (ib q.1))))) (hsz : w.heap.size ≤ w'.heap.size) (hb : ∀ b, b < w.heap.size → b ≠ mb → w'.heap[b]? = w.heap[b]?) (hi : ItemAt (fun _ => False) w' k i n x) :
    TreeAt (fun b => if b = i then .item k else if b = n ∧ x.kind = 2 then .names k else g b) D w' p mb (fun j => if j = k then i else ib j) (fun j => if j = k then n else nb j) (aput ilt k x T) := by
  have hgl : ∀ b, g b ≠ .none → b ≠ i ∧ b ≠ n := fun b hb => by have := h.low b hb; omega
  have hgg : ∀ b, g b ≠ .none → (if b = i then Own.item k else if b = n ∧ x.kind = 2 then .names k else g b) = g b := fun b hb => by
    obtain ⟨h1, h2⟩ := hgl b hb
    rw [if_neg h1, if_neg (fun h => h2 h.1)]
  have hp : g p ≠ .none := by rw [h.tagp]; simp
  have hmm : g mb ≠ .none := by rw [h.tagm]; simp
  refine ⟨(hb p (h.low p hp) (fun e => by have := h.tagp; rw [e, h.tagm] at this; cases this)).trans h.head, ?_, ?_, (hgg p hp).trans h.tagp, (hgg mb hmm).trans h.tagm, ?_, ?_, ?_, ?_, fun b hb => Nat.lt_of_lt_of_le (h.dlow b hb) hsz⟩
  · have e1 : (aput ilt k x T).map (fun q => (q.1, ptr ((fun j => if j = k then i else ib j) q.1))) = aput ilt k (ptr i) (T.map fun q => (q.1, ptr (ib q.1))) := by
      rw [aput_mapK ilt (fun j _ => ptr ((fun j => if j = k then i else ib j) j))]
      simp only [if_pos]
      congr 1
      apply List.map_congr_left
      intro q hq
      have : q.1 ≠ k := aget_none.1 hx0 q hq
      rw [if_neg this]
    rw [e1]
    exact hm
  · intro j y hy
    rw [aget_aput] at hy
    by_cases hj : j = k
    · subst hj
      rw [if_pos rfl] at hy
      cases hy
      simp only [if_pos]
      refine hi.move (Nat.le_refl _) rfl (fun _ => rfl) (fun b hb => hb.elim)
    · rw [if_neg hj] at hy
      simp only [if_neg hj]
      have t1 := h.tagi j y hy
      refine (h.item j y hy).move hsz (hb _ (h.low _ (by rw [t1]; simp)) (fun e => by rw [e, h.tagm] at t1; cases t1)) (fun hk => hb _ (h.low _ (by rw [h.tagn j y hy hk]; simp)) (fun e => by have t2 := h.tagn j y hy hk; rw [e, h.tagm] at t2; cases t2)) ?_
      intro b hDb hbw
      exact ⟨hDb, hb b hbw (fun e => by have := h.data b hDb; rw [e, h.tagm] at this; cases this)⟩
  · intro j y hy
    rw [aget_aput] at hy
    by_cases hj : j = k
    · subst hj; simp
    · rw [if_neg hj] at hy
      have t1 := h.tagi j y hy
      simp only [if_neg hj]
      rw [hgg _ (by rw [t1]; simp)]
      exact t1
  · intro j y hy hk
    rw [aget_aput] at hy
    by_cases hj : j = k
    · subst hj
      rw [if_pos rfl] at hy
      cases hy
      simp only [if_pos]
      rw [if_neg (Ne.symm hin), if_pos ⟨trivial, hk⟩]
    · rw [if_neg hj] at hy
      have t1 := h.tagn j y hy hk
      simp only [if_neg hj]
      rw [hgg _ (by rw [t1]; simp)]
      exact t1
  · intro b hDb
    have := h.dlow b hDb
    rw [if_neg (by omega), if_neg (by omega)]
    exact h.data b hDb
  · intro b hbn
    by_cases h1 : b = i
    · omega
    · by_cases h2 : b = n ∧ x.kind = 2
      · have := hnw h2.2; omega
      · simp only [if_neg h1, if_neg h2] at hbn
        exact Nat.lt_of_lt_of_le (h.low b hbn) hsz
/-- A node is gone. -/
theorem TreeAt.del {g : Nat → Own} {D : Nat → Prop} {w w' : World} {p mb : Nat} {ib nb : Int → Nat} {T : TrM} (h : TreeAt g D w p mb ib nb T) {k : Int}
    (hm : MapAt intK w' mb (adel k (T.map fun q => (q.1, ptr (ib q.1))))) (hsz : w.heap.size ≤ w'.heap.size) (hb : ∀ b, b < w.heap.size → b ≠ mb → w'.heap[b]? = w.heap[b]?) : TreeAt g D w' p mb ib nb (adel k T) := by
  have hp : g p ≠ .none := by rw [h.tagp]; simp
  have hget : ∀ j y, aget j (adel k T) = some y → aget j T = some y := fun j y hy => by
    rw [aget_adel] at hy
    split at hy
    · cases hy
    · exact hy
  refine ⟨(hb p (h.low p hp) (fun e => by have := h.tagp; rw [e, h.tagm] at this; cases this)).trans h.head, ?_, ?_, h.tagp, h.tagm, fun j y hy => h.tagi j y (hget j y hy), fun j y hy => h.tagn j y (hget j y hy), h.data, fun b hb => Nat.lt_of_lt_of_le (h.low b hb) hsz, fun b hb => Nat.lt_of_lt_of_le (h.dlow b hb) hsz⟩
  · rw [adel_mapK (fun j _ => ptr (ib j))]; exact hm
  · intro j y hy'
    have hy := hget j y hy'
    have t1 := h.tagi j y hy
    refine (h.item j y hy).move hsz (hb _ (h.low _ (by rw [t1]; simp)) (fun e => by rw [e, h.tagm] at t1; cases t1)) (fun hk => hb _ (h.low _ (by rw [h.tagn j y hy hk]; simp)) (fun e => by have t2 := h.tagn j y hy hk; rw [e, h.tagm] at t2; cases t2)) ?_
    intro b hDb hbw
    exact ⟨hDb, hb b hbw (fun e => by have := h.data b hDb; rw [e, h.tagm] at this; cases this)⟩
theorem aget_mapK {κ α β : Type} [DecidableEq κ] (f : κ → α → β) (k : κ) (l : List (κ × α)) : aget k (l.map fun p => (p.1, f p.1 p.2)) = (aget k l).map (f k) := by
  induction l with
  | nil => rfl
  | cons y r ih =>
    rw [List.map_cons, aget_cons, aget_cons, ih]
    by_cases h : y.1 = k
    · subst h; simp
    · simp [h]
theorem aget_ptr (ib : Int → Nat) (T : TrM) (k : Int) : aget k (T.map fun q => (q.1, ptr (ib q.1))) = (aget k T).map fun _ => ptr (ib k) := aget_mapK (fun j (_ : ItM) => ptr (ib j)) k T
theorem aget_nameL (x : ItM) (n : Nm) : aget n (nameL x) = (aget n x.names).map fun i => (.int .i64 i : Value) := aget_mapK (fun (_ : Nm) (i : Int) => Value.int .i64 i) n x.names
/-- An item's cells. -/
theorem ItemAt.cell {D : Nat → Prop} {w : World} {k : Int} {ib nb : Nat} {x : ItM} (h : ItemAt D w k ib nb x) :
    w.cell? ⟨ib, 0, none⟩ = some (.int .i64 k) ∧ w.cell? ⟨ib, 1, none⟩ = some (.int .i64 x.kind) ∧ w.cell? ⟨ib, 2, none⟩ = some (.int .i64 x.links) ∧ w.cell? ⟨ib, 3, none⟩ = some (.int .i64 x.b.length) ∧ w.cell? ⟨ib, 4, none⟩ = some (.int .u64 x.til) ∧ w.cell? ⟨ib, 5, none⟩ = some (.bool x.closed) ∧ w.cell? ⟨ib, 7, none⟩ = some (namesV x nb) ∧ ib < w.heap.size := by
  obtain ⟨⟨a, c, h1, _⟩, _⟩ := h
  have := (Array.getElem?_eq_some_iff.1 h1).1
  refine ⟨?_, ?_, ?_, ?_, ?_, ?_, ?_, this⟩ <;> (simp only [World.cell?, h1]; rfl)
theorem TreeAt.cell {g : Nat → Own} {D : Nat → Prop} {w : World} {p mb : Nat} {ib nb : Int → Nat} {T : TrM} (h : TreeAt g D w p mb ib nb T) : w.cell? ⟨p, 0, none⟩ = some (.map (some mb)) ∧ p < w.heap.size ∧ mb < w.heap.size := by
  have := (Array.getElem?_eq_some_iff.1 h.head).1
  exact ⟨by simp [World.cell?, h.head], this, h.map.lt⟩
end Go.Proofs.Ytcmlfaolooglfaa
