/- Maps in memory as sorted lists of keys and values: what a look-up, a store, a delete and a range do to them. -/
import Derived.Test.YtcmlfaolooglfaaHeap
import Derived.Maps.OwnSet
import Derived.Maps.RangeWalk
namespace Go.Proofs.Ytcmlfaolooglfaa
open Go.ChangeShapes Go.WideShapes Go.ChangeAt Go.RowKit
set_option linter.unusedVariables false
set_option linter.unusedSectionVars false

/-- Keys of one kind: an order and the model's words for them. -/
structure KeyFor (P : Program) (K : TypeId) (κ : Type) [DecidableEq κ] where
  lit : κ → Lit
  val : κ → Value
  ok : κ → Prop
  lt : κ → κ → Bool
  law : Go.Maps.Keyed P K
  of : ∀ x, ok x → keyOf P K (val x) = some (lit x)
  inv : ∀ v kl, keyOf P K v = some kl → ∃ x, v = val x ∧ kl = lit x ∧ ok x
  same : ∀ a b, (lit a).sameKey (lit b) = decide (a = b)
  before : ∀ a b, (lit a).before (lit b) = lt a b
  isKey : ∀ a, WideAt.IsKeyLit (lit a)

section
variable {κ α : Type} [DecidableEq κ] (lt : κ → κ → Bool)
/-- An association list: in, out, put. -/
def ains (x : κ × α) : List (κ × α) → List (κ × α)
  | [] => [x]
  | y :: r => if lt x.1 y.1 then x :: y :: r else y :: ains x r
def adel (k : κ) (l : List (κ × α)) : List (κ × α) := l.filter fun p => !decide (p.1 = k)
def aput (k : κ) (v : α) (l : List (κ × α)) : List (κ × α) := ains lt (k, v) (adel k l)
def aget (k : κ) (l : List (κ × α)) : Option α := (l.find? fun p => decide (p.1 = k)).map (·.2)

theorem ains_map {β : Type} (f : α → β) (x : κ × α) : ∀ l : List (κ × α), (ains lt x l).map (fun p => (p.1, f p.2)) = ains lt (x.1, f x.2) (l.map fun p => (p.1, f p.2))
  | [] => rfl
  | y :: r => by
    unfold ains
    simp only [List.map_cons]
    split <;> simp [ains_map f x r]
theorem adel_map {β : Type} (f : α → β) (k : κ) (l : List (κ × α)) : (adel k l).map (fun p => (p.1, f p.2)) = adel k (l.map fun p => (p.1, f p.2)) := by
  simp [adel, List.filter_map, Function.comp_def]
theorem aput_map {β : Type} (f : α → β) (k : κ) (v : α) (l : List (κ × α)) : (aput lt k v l).map (fun p => (p.1, f p.2)) = aput lt k (f v) (l.map fun p => (p.1, f p.2)) := by
  simp [aput, ains_map, adel_map]
theorem aget_map {β : Type} (f : α → β) (k : κ) (l : List (κ × α)) : aget k (l.map fun p => (p.1, f p.2)) = (aget k l).map f := by
  induction l with
  | nil => rfl
  | cons y r ih =>
    unfold aget at ih ⊢
    simp only [List.map_cons, List.find?_cons]
    cases h : decide (y.1 = k) <;> simp_all
theorem mem_ains {x y : κ × α} : ∀ {l : List (κ × α)}, y ∈ ains lt x l ↔ y = x ∨ y ∈ l
  | [] => by simp [ains]
  | z :: r => by
    unfold ains
    split
    · simp
    · simp only [List.mem_cons, mem_ains (l := r)]
      constructor
      · rintro (h | h | h) <;> simp [h]
      · rintro (h | h | h) <;> simp [h]
theorem length_ains (x : κ × α) : ∀ l : List (κ × α), (ains lt x l).length = l.length + 1
  | [] => rfl
  | y :: r => by
    unfold ains
    split
    · rfl
    · simp [length_ains x r]
theorem aget_ains_same (k : κ) (v : α) : ∀ l : List (κ × α), (∀ p ∈ l, p.1 ≠ k) → aget k (ains lt (k, v) l) = some v
  | [], _ => by simp [ains, aget]
  | y :: r, h => by
    unfold ains
    split
    · simp [aget]
    · have h1 : y.1 ≠ k := h y (by simp)
      have := aget_ains_same k v r (fun p hp => h p (by simp [hp]))
      unfold aget at this ⊢
      simp [h1, this]
theorem aget_ains_other {k j : κ} (hne : j ≠ k) (v : α) : ∀ l : List (κ × α), aget j (ains lt (k, v) l) = aget j l
  | [] => by simp [ains, aget, Ne.symm hne]
  | y :: r => by
    unfold ains
    split
    · simp [aget, Ne.symm hne]
    · have := aget_ains_other hne v r
      unfold aget at this ⊢
      simp only [List.find?_cons]
      split <;> simp_all
theorem aget_adel_same (k : κ) (l : List (κ × α)) : aget k (adel k l) = none := by
  unfold aget adel
  rw [List.find?_eq_none.2 (fun p hp => by simpa using (List.mem_filter.1 hp).2)]
  rfl
theorem aget_adel_other {k j : κ} (hne : j ≠ k) (l : List (κ × α)) : aget j (adel k l) = aget j l := by
  unfold aget adel
  rw [Go.Maps.find_filter_keep (fun p h => by
    simp only [decide_eq_true_eq] at h
    simp [h, hne])]
theorem aget_aput_same (k : κ) (v : α) (l : List (κ × α)) : aget k (aput lt k v l) = some v :=
  aget_ains_same lt k v _ (fun p hp => by simpa using (List.mem_filter.1 hp).2)
theorem aget_aput_other {k j : κ} (hne : j ≠ k) (v : α) (l : List (κ × α)) : aget j (aput lt k v l) = aget j l := by
  unfold aput
  rw [aget_ains_other lt hne, aget_adel_other hne]
theorem aget_mem {k : κ} {v : α} {l : List (κ × α)} (h : aget k l = some v) : (k, v) ∈ l := by
  unfold aget at h
  cases hf : l.find? (fun p => decide (p.1 = k)) with
  | none => rw [hf] at h; cases h
  | some p =>
    rw [hf] at h
    have h1 := List.find?_some hf
    have h2 := List.mem_of_find?_eq_some hf
    simp only [Option.map_some, Option.some.injEq] at h
    simp only [decide_eq_true_eq] at h1
    rw [← h, ← h1]
    exact h2
theorem aget_none {k : κ} {l : List (κ × α)} : aget k l = none ↔ ∀ p ∈ l, p.1 ≠ k := by
  unfold aget
  simp [List.find?_eq_none]
theorem adel_none {k : κ} {l : List (κ × α)} (h : aget k l = none) : adel k l = l := by
  rw [aget_none] at h
  unfold adel
  rw [List.filter_eq_self]
  intro p hp
  simp [h p hp]
end

/-- An order that is whole. -/
structure LtLaws {κ : Type} (lt : κ → κ → Bool) : Prop where
  irr : ∀ a, lt a a = false
  trans : ∀ a b c, lt a b = true → lt b c = true → lt a c = true
  tot : ∀ a b, a ≠ b → lt a b = true ∨ lt b a = true
def ASorted {κ α : Type} (lt : κ → κ → Bool) (l : List (κ × α)) : Prop := l.Pairwise (fun p q => lt p.1 q.1 = true)
section
variable {κ α : Type} [DecidableEq κ] {lt : κ → κ → Bool}
theorem ASorted.adel {l : List (κ × α)} (h : ASorted lt l) (k : κ) : ASorted lt (adel k l) := List.Pairwise.filter _ h
theorem ASorted.ains (L : LtLaws lt) {x : κ × α} : ∀ {l : List (κ × α)}, ASorted lt l → (∀ p ∈ l, p.1 ≠ x.1) → ASorted lt (ains lt x l)
  | [], _, _ => by simp [ASorted, Go.Proofs.Ytcmlfaolooglfaa.ains]
  | y :: r, h, hn => by
    obtain ⟨h1, h2⟩ := List.pairwise_cons.1 h
    unfold Go.Proofs.Ytcmlfaolooglfaa.ains
    split
    · rename_i hb
      refine List.pairwise_cons.2 ⟨fun q hq => ?_, h⟩
      rcases List.mem_cons.1 hq with rfl | hq
      · exact hb
      · exact L.trans _ _ _ hb (h1 q hq)
    · rename_i hb
      have hyx : lt y.1 x.1 = true := by
        rcases L.tot x.1 y.1 (hn y (by simp)).symm with h' | h'
        · exact absurd h' hb
        · exact h'
      refine List.pairwise_cons.2 ⟨fun q hq => ?_, ASorted.ains L h2 (fun p hp => hn p (by simp [hp]))⟩
      rcases (mem_ains lt).1 hq with rfl | hq
      · exact hyx
      · exact h1 q hq
theorem ASorted.aput (L : LtLaws lt) {l : List (κ × α)} (h : ASorted lt l) (k : κ) (v : α) : ASorted lt (aput lt k v l) :=
  ASorted.ains L (h.adel k) (fun p hp => by simpa using (List.mem_filter.1 hp).2)
theorem ASorted.apart (L : LtLaws lt) {l : List (κ × α)} (h : ASorted lt l) : l.Pairwise (fun p q => p.1 ≠ q.1) :=
  List.Pairwise.imp (fun {a b} hab e => by rw [e, L.irr] at hab; cases hab) h
theorem ASorted.get (L : LtLaws lt) {l : List (κ × α)} (h : ASorted lt l) {k : κ} {v : α} (hm : (k, v) ∈ l) : aget k l = some v := by
  induction l with
  | nil => cases hm
  | cons y r ih =>
    have hp := h.apart L
    obtain ⟨h1, h2⟩ := List.pairwise_cons.1 hp
    unfold aget
    rcases List.mem_cons.1 hm with rfl | hm
    · simp
    · have : y.1 ≠ k := h1 _ hm
      simp only [List.find?_cons, this, decide_false]
      exact ih (List.pairwise_cons.1 h).2 hm
theorem length_adel (L : LtLaws lt) {l : List (κ × α)} (h : ASorted lt l) {k : κ} {v : α} (hg : aget k l = some v) : (adel k l).length + 1 = l.length := by
  induction l with
  | nil => cases hg
  | cons y r ih =>
    have hp := h.apart L
    obtain ⟨h1, h2⟩ := List.pairwise_cons.1 hp
    by_cases e : y.1 = k
    · have : adel k r = r := by
        unfold adel
        rw [List.filter_eq_self]
        intro p hp
        have := h1 p hp
        simp [← e, Ne.symm this]
      unfold adel at this ⊢
      simp [e, this]
    · have hg' : aget k r = some v := by
        unfold aget at hg ⊢
        simpa [e] using hg
      have := ih (List.pairwise_cons.1 h).2 hg'
      unfold adel at this ⊢
      simp [e, this]
/-- Sorted lists that give the same for each key are the same. -/
theorem asorted_ext (L : LtLaws lt) : ∀ {l m : List (κ × α)}, ASorted lt l → ASorted lt m → (∀ k, aget k l = aget k m) → l = m := by
  intro l m hl hm h
  have key : ∀ p : κ × α, p ∈ l ↔ p ∈ m := by
    intro p
    constructor
    · intro hp
      have := hl.get L (k := p.1) (v := p.2) hp
      rw [h] at this
      exact aget_mem this
    · intro hp
      have := hm.get L (k := p.1) (v := p.2) hp
      rw [← h] at this
      exact aget_mem this
  have nd : ∀ {x : List (κ × α)}, ASorted lt x → x.Nodup := fun hx => List.Pairwise.imp (fun {a b} hab e => by rw [e, L.irr] at hab; cases hab) hx
  have hp : l.Perm m := (List.perm_ext_iff_of_nodup (nd hl) (nd hm)).2 key
  exact hp.eq_of_pairwise (fun a b _ _ h1 h2 => by
    have := L.trans _ _ _ h1 h2
    rw [L.irr] at this
    cases this) hl hm
end

/-- How a map's element reads: as itself. -/
def rawE (v : Value) : Option (DataW Value × List MemPlace) := some (.held v, [])

section
variable {P : Program} {K : TypeId} {κ : Type} [DecidableEq κ] (F : KeyFor P K κ)
/-- The datum of a list of keys and values. -/
def toD (l : List (κ × Value)) : DataW Value := .map (l.map fun p => (F.lit p.1, .held p.2))
theorem toD_put (k : κ) (v : Value) (l : List (κ × Value)) : (toD F l).put (F.lit k) (.held v) = toD F (aput F.lt k v l) := by
  have h1 : ∀ m : List (κ × Value), DataW.insert (F.lit k, .held v) (m.map fun p => (F.lit p.1, DataW.held p.2)) = (ains F.lt (k, v) m).map fun p => (F.lit p.1, DataW.held p.2) := by
    intro m
    induction m with
    | nil => rfl
    | cons y r ih =>
      unfold ains
      simp only [List.map_cons, DataW.insert, F.before]
      split <;> simp [ih]
  show DataW.map (DataW.insert (F.lit k, .held v) ((l.map fun p => (F.lit p.1, DataW.held p.2)).filter fun p => !p.1.sameKey (F.lit k))) = _
  rw [List.filter_map]
  have h2 : (fun p : Lit × DataW Value => !p.1.sameKey (F.lit k)) ∘ (fun p : κ × Value => (F.lit p.1, DataW.held p.2)) = fun p => !decide (p.1 = k) := by
    funext p
    simp [F.same]
  rw [h2, h1]
  rfl
theorem toD_del (k : κ) (l : List (κ × Value)) : (toD F l).del (F.lit k) = toD F (adel k l) := by
  show DataW.map ((l.map fun p => (F.lit p.1, DataW.held p.2)).filter fun p => !p.1.sameKey (F.lit k)) = _
  rw [List.filter_map]
  have h2 : (fun p : Lit × DataW Value => !p.1.sameKey (F.lit k)) ∘ (fun p : κ × Value => (F.lit p.1, DataW.held p.2)) = fun p => !decide (p.1 = k) := by
    funext p
    simp [F.same]
  rw [h2]
  rfl
theorem toD_has (k : κ) (l : List (κ × Value)) : Go.Maps.has (toD F l) (F.lit k) = (aget k l).isSome := by
  unfold toD aget
  simp only [Go.Maps.has, List.any_map, Function.comp_def, F.same]
  induction l with
  | nil => rfl
  | cons y r ih =>
    simp only [List.any_cons, List.find?_cons]
    cases h : decide (y.1 = k) <;> simp [ih]
theorem toD_at (k : κ) (l : List (κ × Value)) (z : DataW Value) : (toD F l).atKey (F.lit k) z = match aget k l with | some v => .held v | none => z := by
  unfold toD aget
  simp only [DataW.atKey, List.find?_map, Function.comp_def, F.same]
  cases l.find? (fun x => decide (x.1 = k)) <;> rfl
theorem toD_size (l : List (κ × Value)) : Go.Maps.size (toD F l) = l.length := by simp [toD, Go.Maps.size]

/-- Block b is a map of these keys and values (rising). -/
def MapAt (w : World) (b : Nat) (l : List (κ × Value)) : Prop := w.ownsMap P K rawE b l.length (toD F l)

variable {F}
theorem tight {w : World} {b n : Nat} {D : DataW Value} (h : w.ownsMap P K rawE b n D) : w.ownsMap P K rawE b (Go.Maps.size D) D := by
  obtain ⟨es, clock, hb, hF, hs, rfl⟩ := h
  exact ⟨es, clock, hb, hF, by simp [Go.Maps.size, length_sorted], rfl⟩
theorem MapAt.of_owns {w : World} {b n : Nat} {l : List (κ × Value)} (h : w.ownsMap P K rawE b n (toD F l)) : MapAt F w b l := by
  have := tight h
  rwa [toD_size] at this
theorem MapAt.made (w : World) : MapAt F (w.alloc (.map #[] 0)) w.heap.size [] := World.ownsMap_made w P K rawE
theorem MapAt.lt {w : World} {b : Nat} {l : List (κ × Value)} (h : MapAt F w b l) : b < w.heap.size := World.ownsMap.lt h
theorem MapAt.kept {w w' : World} {b : Nat} {l : List (κ × Value)} (h : MapAt F w b l) (hk : w'.heap[b]? = w.heap[b]?) : MapAt F w' b l := by
  obtain ⟨es, clock, hb, r⟩ := h
  exact ⟨es, clock, hk.trans hb, r⟩
theorem MapAt.is {w : World} {b : Nat} {l : List (κ × Value)} (h : MapAt F w b l) : ∃ es clock, w.heap[b]? = some (.map es clock) := by
  obtain ⟨es, clock, hb, r⟩ := h
  exact ⟨es, clock, hb⟩
/-- Its keys rise, and are keys. -/
theorem MapAt.sorted {w : World} {b : Nat} {l : List (κ × Value)} (h : MapAt F w b l) : ASorted F.lt l ∧ ∀ p ∈ l, F.ok p.1 := by
  obtain ⟨es, clock, hb, hF, hs, hD⟩ := h
  have hr := Go.Maps.fit_rising F.law hF
  have hk := Go.Maps.fit_keys hF
  simp only [toD, DataW.map.injEq] at hD
  have hp := Go.Maps.sorted_sorted F.law.one _ hk (Go.Maps.fit_apart F.law hF)
  rw [← hD] at hp
  constructor
  · rw [List.pairwise_map] at hp
    exact hp.imp (fun {a b} h => by rw [← F.before]; exact h)
  · intro p hp
    have h1 : (F.lit p.1, DataW.held p.2) ∈ l.map (fun p => (F.lit p.1, DataW.held p.2)) := List.mem_map.2 ⟨p, hp, rfl⟩
    rw [hD] at h1
    have h2 := (sorted_perm _).mem_iff.1 h1
    obtain ⟨v, hv⟩ := hk _ h2
    obtain ⟨x, rfl, hx, hok⟩ := F.inv v _ hv
    have : p.1 = x := by
      have := F.same p.1 x
      rw [← hx, WideAt.sameKey_self (F.isKey _)] at this
      simpa using this.symm
    rw [this]
    exact hok
end
end Go.Proofs.Ytcmlfaolooglfaa
