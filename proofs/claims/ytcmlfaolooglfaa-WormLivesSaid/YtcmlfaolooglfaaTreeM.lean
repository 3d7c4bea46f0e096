/- The tree, as plain data: what each call of package tree says, and what is behind it. -/
import Derived.Test.YtcmlfaolooglfaaStrK
import Derived.Test.YtcmlfaolooglfaaPathPure
namespace Go.Proofs.Ytcmlfaolooglfaa
open Go.ChangeShapes Go.WideShapes Go.ChangeAt Go.RowKit
set_option linter.unusedVariables false
set_option linter.unusedSimpArgs false

abbrev Nm := List UInt8
abbrev ilt (a b : Int) : Bool := decide (a < b)
structure ItM where
  kind : Int
  links : Int
  til : Int
  closed : Bool
  b : List UInt8
  names : List (Nm × Int)
abbrev TrM := List (Int × ItM)

section
variable {κ α : Type} [DecidableEq κ]
/-- What stands at a key is turned. -/
def amod (k : κ) (f : α → α) (l : List (κ × α)) : List (κ × α) := l.map fun q => if q.1 = k then (q.1, f q.2) else q
theorem aget_cons (k : κ) (y : κ × α) (r : List (κ × α)) : aget k (y :: r) = if y.1 = k then some y.2 else aget k r := by
  unfold aget
  by_cases h : y.1 = k <;> simp [h]
theorem aget_amod (k j : κ) (f : α → α) (l : List (κ × α)) : aget j (amod k f l) = if j = k then (aget j l).map f else aget j l := by
  induction l with
  | nil => simp [amod, aget]
  | cons y r ih =>
    have ih' : aget j (List.map (fun q : κ × α => if q.1 = k then (q.1, f q.2) else q) r) = if j = k then (aget j r).map f else aget j r := ih
    unfold amod
    rw [List.map_cons, aget_cons, aget_cons, ih']
    by_cases h : y.1 = k
    · by_cases h2 : y.1 = j
      · have : j = k := h2 ▸ h
        simp [h, this]
      · have : j ≠ k := fun e => h2 (h.trans e.symm)
        have h3 : ¬ k = j := fun e => this e.symm
        simp [h, h3, this]
    · by_cases h2 : y.1 = j
      · have : j ≠ k := fun e => h (h2.trans e)
        simp [h2, this]
      · simp [h, h2]
theorem amod_keys {β : Type} (k : κ) (f : α → α) (l : List (κ × α)) (g : κ → β) : (amod k f l).map (fun q => (q.1, g q.1)) = l.map fun q => (q.1, g q.1) := by
  unfold amod
  rw [List.map_map]
  apply List.map_congr_left
  intro q _
  by_cases h : q.1 = k <;> simp [h]
theorem amod_length (k : κ) (f : α → α) (l : List (κ × α)) : (amod k f l).length = l.length := by simp [amod]
theorem amod_sorted {lt : κ → κ → Bool} (k : κ) (f : α → α) {l : List (κ × α)} (h : ASorted lt l) : ASorted lt (amod k f l) := by
  unfold ASorted amod
  rw [List.pairwise_map]
  refine List.Pairwise.imp (fun {a b} hab => ?_) h
  by_cases h1 : a.1 = k <;> by_cases h2 : b.1 = k <;> simp_all
theorem aget_of_mem {lt : κ → κ → Bool} (L : LtLaws lt) {l : List (κ × α)} (h : ASorted lt l) {q : κ × α} (hq : q ∈ l) : aget q.1 l = some q.2 := h.get L hq
end

/-- The tree that is new. -/
def freshM (kind : Int) : ItM := ⟨kind, 1, 0, decide (kind = 2), [], []⟩
def newM : TrM := [(0, freshM 2)]

/-- The node at names, below one. -/
def lookM (T : TrM) : Int → List Nm → Int × Int
  | id, [] => (id, 0)
  | id, n :: r => match aget id T with
    | none => (0, 20)
    | some x => if x.kind = 2 then (match aget n x.names with
      | none => (0, 20)
      | some k => lookM T k r) else (0, 23)
def kindM (T : TrM) (id : Int) : Int := match aget id T with | some x => x.kind | none => 0
def namesM (T : TrM) (id : Int) : List (Nm × Int) := match aget id T with | some x => x.names | none => []
/-- The directory, and the name in it; a refusal. -/
def placeM (T : TrM) (p : List Nm) : Int × Nm × Int :=
  if p = [] then (0, [], 1) else
  if (lookM T 0 p.dropLast).2 ≠ 0 then (0, [], (lookM T 0 p.dropLast).2) else
  if kindM T (lookM T 0 p.dropLast).1 = 2 then ((lookM T 0 p.dropLast).1, p.getLastD [], 0) else (0, [], 23)
/-- The least that is free. -/
def freeM (T : TrM) : Int := (((List.range (T.length + 1)).map fun n : Nat => (n : Int) + 1).find? fun n => (aget n T).isNone).getD 0
def setName (T : TrM) (d : Int) (n : Nm) (id : Int) : TrM := amod d (fun x => { x with names := aput bytesBefore n id x.names }) T
def cutName (T : TrM) (d : Int) (n : Nm) : TrM := amod d (fun x => { x with names := adel n x.names }) T
def makeOk (T : TrM) (p : List Nm) (kind : Int) : TrM := setName (aput ilt (freeM T) (freshM kind) T) (placeM T p).1 (placeM T p).2.1 (freeM T)
def makeE (T : TrM) (p : List Nm) (kind : Int) : Int :=
  if fineL p ≠ 0 then fineL p else
  if ¬ (kind = 1 ∨ kind = 2) then 30 else
  if (placeM T p).2.2 ≠ 0 then (placeM T p).2.2 else
  if (aget (placeM T p).2.1 (namesM T (placeM T p).1)).isSome then 21 else
  if 64 ≤ T.length then 4 else 0
def makeM (T : TrM) (p : List Nm) (kind : Int) : (Int × Int) × TrM :=
  if makeE T p kind = 0 then ((freeM T, 0), makeOk T p kind) else ((0, makeE T p kind), T)
def fileE (T : TrM) (id : Int) : Int := match aget id T with | none => 20 | some x => if x.kind = 2 then 22 else 0
def appendE (T : TrM) (id : Int) (b : List UInt8) : Int := match aget id T with
  | none => 20
  | some x => if x.kind = 2 then 22 else if x.closed then 27 else if 4096 < x.b.length + b.length then 15 else 0
def appendM (T : TrM) (id : Int) (b : List UInt8) : Int × TrM := (appendE T id b, if appendE T id b = 0 then amod id (fun x => { x with b := x.b ++ b }) T else T)
def partE (at_ n : Int) : Int := if at_ < 0 ∨ n < 0 then 1 else 0
def partB (b : List UInt8) (at_ n : Int) : List UInt8 := if at_ < 0 ∨ n < 0 then [] else (b.drop at_.toNat).take n.toNat
def readE (T : TrM) (id at_ n : Int) : Int := match aget id T with | none => 20 | some x => if x.kind = 2 then 22 else partE at_ n
def readB (T : TrM) (id at_ n : Int) : List UInt8 := match aget id T with | none => [] | some x => if x.kind = 2 then [] else partB x.b at_ n
/-- A closed file without names is gone. -/
def settleM (T : TrM) (id : Int) : TrM := match aget id T with
  | none => T
  | some x => if x.links = 0 ∧ x.closed = true then adel id T else T
def sealE (T : TrM) (id til : Int) : Int := match aget id T with
  | none => 20
  | some x => if x.kind = 2 then 22 else if x.closed then 27 else if 1099511627776 < til then 1 else 0
def sealM (T : TrM) (id til : Int) : Int × TrM := (sealE T id til, if sealE T id til = 0 then settleM (amod id (fun x => { x with closed := true, til := til }) T) id else T)
def keepE (T : TrM) (id til : Int) : Int := match aget id T with
  | none => 20
  | some x => if x.kind = 2 then 22 else if x.closed = false then 25 else if til < x.til then 28 else if 1099511627776 < til then 1 else 0
def keepM (T : TrM) (id til : Int) : Int × TrM := (keepE T id til, if keepE T id til = 0 then amod id (fun x => { x with til := til }) T else T)
def dropE (T : TrM) (id : Int) : Int := match aget id T with
  | none => 20
  | some x => if x.kind = 2 then 22 else if x.closed then 27 else 0
def dropOk (T : TrM) (id : Int) : TrM := adel id (T.map fun q => (q.1, { q.2 with names := q.2.names.filter fun e => !decide (e.2 = id) }))
def dropM (T : TrM) (id : Int) : Int × TrM := (dropE T id, if dropE T id = 0 then dropOk T id else T)
def fine2 (p to : List Nm) : Int := if fineL p ≠ 0 then fineL p else fineL to
def linksM (T : TrM) (id : Int) : Int := match aget id T with | some x => x.links | none => 0
def linkE (T : TrM) (p to : List Nm) : Int :=
  if fine2 p to ≠ 0 then fine2 p to else
  if (lookM T 0 p).2 ≠ 0 then (lookM T 0 p).2 else
  if kindM T (lookM T 0 p).1 = 2 then 22 else
  if (placeM T to).2.2 ≠ 0 then (placeM T to).2.2 else
  if (aget (placeM T to).2.1 (namesM T (placeM T to).1)).isSome then 21 else
  if 64 ≤ linksM T (lookM T 0 p).1 then 4 else 0
def linkOk (T : TrM) (p to : List Nm) : TrM := amod (lookM T 0 p).1 (fun x => { x with links := x.links + 1 }) (setName T (placeM T to).1 (placeM T to).2.1 (lookM T 0 p).1)
def linkM (T : TrM) (p to : List Nm) : Int × TrM := (linkE T p to, if linkE T p to = 0 then linkOk T p to else T)
def lookE (T : TrM) (p : List Nm) : Int × Int := if fineL p ≠ 0 then (0, fineL p) else lookM T 0 p
def unlinkE (T : TrM) (p : List Nm) : Int :=
  if (lookE T p).2 ≠ 0 then (lookE T p).2 else if kindM T (lookM T 0 p).1 = 2 then 22 else 0
def unlinkOk (T : TrM) (p : List Nm) : TrM := settleM (amod (lookM T 0 p).1 (fun x => { x with links := x.links - 1 }) (cutName T (placeM T p).1 (placeM T p).2.1)) (lookM T 0 p).1
def unlinkM (T : TrM) (p : List Nm) : Int × TrM := (unlinkE T p, if unlinkE T p = 0 then unlinkOk T p else T)
def rmdirE (T : TrM) (p : List Nm) : Int :=
  if (lookE T p).2 ≠ 0 then (lookE T p).2 else if kindM T (lookM T 0 p).1 ≠ 2 then 23 else if (lookM T 0 p).1 = 0 then 1 else if 0 < (namesM T (lookM T 0 p).1).length then 24 else 0
def rmdirOk (T : TrM) (p : List Nm) : TrM := adel (lookM T 0 p).1 (cutName T (placeM T p).1 (placeM T p).2.1)
def rmdirM (T : TrM) (p : List Nm) : Int × TrM := (rmdirE T p, if rmdirE T p = 0 then rmdirOk T p else T)

/-- How many names lead to a node. -/
def cn (k : Int) (x : ItM) : Nat := x.names.countP fun e => decide (e.2 = k)
def cntM (T : TrM) (k : Int) : Nat := (T.map fun q => cn k q.2).sum
/-- What holds of each tree, whatever is done. -/
structure Ok1 (x : ItM) : Prop where
  kind : x.kind = 1 ∨ x.kind = 2
  file : x.kind = 1 → x.names = []
  dir : x.kind = 2 → x.links = 1 ∧ x.closed = true ∧ x.b = [] ∧ x.til = 0
  gone : x.links = 0 → x.closed = false
  sorted : ASorted bytesBefore x.names
  good : ∀ e ∈ x.names, goodL e.1 = true
  size : x.b.length ≤ 4096
  links : 0 ≤ x.links ∧ x.links ≤ 64
  til : 0 ≤ x.til ∧ x.til ≤ 1099511627776
structure OkP (T : TrM) : Prop where
  sorted : ASorted ilt T
  root : kindM T 0 = 2
  each : ∀ k x, aget k T = some x → Ok1 x
  leads : ∀ k x, aget k T = some x → ∀ e ∈ x.names, (aget e.2 T).isSome = true ∧ e.2 ≠ 0
  len : T.length ≤ 64
  ids : ∀ k x, aget k T = some x → 0 ≤ k ∧ k ≤ 65535
structure OkM (T : TrM) : Prop extends OkP T where
  counts : ∀ k x, aget k T = some x → k ≠ 0 → (cntM T k : Int) = x.links

theorem kindM_some {T : TrM} {id : Int} (h : kindM T id = 2) : ∃ x, aget id T = some x ∧ x.kind = 2 := by
  unfold kindM at h
  cases hg : aget id T with
  | none => rw [hg] at h; cases h
  | some x => rw [hg] at h; exact ⟨x, rfl, h⟩
/-- What is looked up is there. -/
theorem lookM_there {T : TrM} (hT : OkM T) : ∀ (p : List Nm) (id : Int), (aget id T).isSome = true → (lookM T id p).2 = 0 → (aget (lookM T id p).1 T).isSome = true
  | [], id, h, _ => h
  | n :: r, id, h, he => by
    obtain ⟨x, hx⟩ := Option.isSome_iff_exists.1 h
    simp only [lookM, hx] at he ⊢
    split at he
    · rename_i hk
      rw [if_pos hk]
      cases hn : aget n x.names with
      | none => rw [hn] at he; cases he
      | some k =>
        rw [hn] at he
        exact lookM_there hT r k (hT.leads _ _ hx _ (aget_mem hn)).1 he
    · cases he
theorem root_there {T : TrM} (hT : OkM T) : (aget 0 T).isSome = true := by
  obtain ⟨x, h, _⟩ := kindM_some hT.root
  simp [h]
end Go.Proofs.Ytcmlfaolooglfaa
