/- Plain laws of names and paths: lists of bytes alone. The tree, as plain data: what each call of package tree says, and what is behind it. Keys of kind int. A tree in memory; what turns it. -/
import Derived.Test.YtmabllemjkcobaaGreatDoorM05
import Derived.Lib.Split
import Derived.Lib.SplitLaws
import Derived.Lib.Join
import Derived.Test.YtmabllemjkcobaaGreatDoorM04
import Derived.Test.YtmabllemjkcobaaGreatDoorM02
namespace Go.Proofs.YtmabllemjkcobaaGreatDoor
set_option linter.unusedVariables false
open Go

/-- Cut at each '/'. -/
def splitL : List UInt8 → List (List UInt8)
  | [] => [[]]
  | c :: r => if c = 47 then [] :: splitL r else match splitL r with | [] => [[c]] | x :: xs => (c :: x) :: xs

theorem splitL_ne (l : List UInt8) : splitL l ≠ [] := by
  induction l with
  | nil => simp [splitL]
  | cons c r ih => unfold splitL; split <;> (try split) <;> simp

theorem splitL_cons_ne (c : UInt8) (r : List UInt8) (h : c ≠ 47) : ∃ x xs, splitL r = x :: xs ∧ splitL (c :: r) = (c :: x) :: xs := by
  cases hr : splitL r with
  | nil => exact absurd hr (splitL_ne r)
  | cons x xs => exact ⟨x, xs, rfl, by simp [splitL, h, hr]⟩

theorem splitL_none (l : List UInt8) (h : ∀ c ∈ l, c ≠ 47) : splitL l = [l] := by
  induction l with
  | nil => rfl
  | cons c r ih =>
    have h1 := ih (fun x hx => h x (List.mem_cons_of_mem _ hx))
    simp [splitL, h c (by simp), h1]

theorem splitL_le (l : List UInt8) : ∀ x ∈ splitL l, x.length ≤ l.length := by
  induction l with
  | nil => intro x hx; simp [splitL] at hx; subst hx; simp
  | cons c r ih =>
    by_cases h : c = 47
    · intro x hx
      simp only [splitL, h, if_true, List.mem_cons] at hx
      rcases hx with rfl | hx
      · simp
      · have := ih x hx; simp; omega
    · obtain ⟨y, ys, e1, e2⟩ := splitL_cons_ne c r h
      intro x hx
      rw [e2] at hx
      rw [e1] at ih
      rcases List.mem_cons.1 hx with rfl | hx
      · have := ih y (by simp); simp; omega
      · have := ih x (by simp [hx]); simp; omega
theorem splitL_length (l : List UInt8) : (splitL l).length = l.count 47 + 1 := by
  induction l with
  | nil => rfl
  | cons c r ih =>
    by_cases h : c = 47
    · subst h; simp [splitL, ih]
    · obtain ⟨y, ys, e1, e2⟩ := splitL_cons_ne c r h
      rw [e2, List.count_cons_of_ne h]
      rw [e1] at ih
      simpa using ih

/-- The library's cut at "/" is ours. -/
theorem splitK_eq (l : List UInt8) : ∀ k, l.count 47 ≤ k → Lib.splitK [47] 0 k l = splitL l := by
  induction l with
  | nil =>
    intro k _
    cases k <;> simp [Lib.splitK, splitL, Lib.index]
  | cons c r ih =>
    intro k hk
    cases k with
    | zero =>
      have : ∀ x ∈ c :: r, x ≠ 47 := by
        intro x hx e
        subst e
        have := List.count_pos_iff.2 hx
        omega
      rw [splitL_none _ this]
      rfl
    | succ k =>
      by_cases h : c = 47
      · subst h
        have e : Lib.index (47 :: r) [47] = 0 := by simp [Lib.index]
        have hk' : r.count 47 ≤ k := by simp at hk; omega
        simp only [Lib.splitK, e, splitL, if_true]
        have h1 : ((0 : Int) == -1) = false := by decide
        rw [h1]
        simp [ih k hk']
      · have hpre : ([47] : List UInt8).isPrefixOf (c :: r) = false := by
          simp [List.isPrefixOf]
          exact fun e => h e.symm
        have hk' : r.count 47 ≤ k + 1 := by
          rw [List.count_cons_of_ne h] at hk
          omega
        have h2 := ih (k + 1) hk'
        obtain ⟨x, xs, e1, e2⟩ := splitL_cons_ne c r h
        rw [e2]
        rw [e1] at h2
        simp only [Lib.splitK, Lib.index, hpre] at h2 ⊢
        by_cases hi : Lib.index r [47] = -1
        · simp only [hi] at h2 ⊢
          simp at h2 ⊢
          rw [h2.1, h2.2]
          simp
        · have hge := Lib.index_ge r [47]
          have b1 : (Lib.index r [47] == -1) = false := by simpa using hi
          have b2 : (Lib.index r [47] + 1 == -1) = false := by simp; omega
          rw [b1] at h2
          simp only [b1, Bool.false_eq_true, if_false, b2] at h2 ⊢
          obtain ⟨i, hi2⟩ : ∃ i : Nat, Lib.index r [47] = i := ⟨(Lib.index r [47]).toNat, by omega⟩
          rw [hi2] at h2 ⊢
          have t1 : ((i : Int) + 1).toNat = i + 1 := by omega
          rw [t1]
          simp only [Int.toNat_natCast, Nat.add_zero, List.cons.injEq, List.length_singleton] at h2 ⊢
          obtain ⟨g1, g2⟩ := h2
          refine ⟨by simp [← g1], ?_⟩
          rw [← g2]
          simp

def fineL (ls : List (List UInt8)) : Int := if ls.any (fun x => !goodL x) then 12 else if 8 < ls.length then 3 else 0

/-- What path.Split says. -/
def pathSplit (l : List UInt8) : List (List UInt8) × Int :=
  match l with
  | [] => ([], 12)
  | c :: r => if c ≠ 47 then ([], 12) else if r = [] then ([], 0) else if fineL (splitL r) = 0 then (splitL r, 0) else ([], fineL (splitL r))
theorem splitB_ours (s : ByteArray) : (Lib.splitB ⟨#[47]⟩ 0 (Lib.countB s ⟨#[47]⟩) s).map (fun x => x.data.toList) = splitL s.data.toList ∧ Lib.countB s ⟨#[47]⟩ = s.data.toList.count 47 := by
  have hc : Lib.countB s ⟨#[47]⟩ = s.data.toList.count 47 := Lib.count_one 47 _
  refine ⟨?_, hc⟩
  have := Lib.splitB_data ⟨#[47]⟩ 0 (Lib.countB s ⟨#[47]⟩) s
  exact this.trans (splitK_eq _ _ (by rw [hc]; exact Nat.le_refl _))
end Go.Proofs.YtmabllemjkcobaaGreatDoor
namespace Go.Proofs.YtmabllemjkcobaaGreatDoor
open Go.ChangeShapes Go.WideShapes Go.ChangeAt Go.RowKit
set_option linter.unusedVariables false
set_option linter.unusedSimpArgs false

abbrev Nm := List UInt8
abbrev ilt (a b : Int) : Bool := decide (a < b)
structure ItM where
  kind : Int
  links : Int
  til : Int
  closed : Bool
  b : List UInt8
  names : List (Nm × Int)
abbrev TrM := List (Int × ItM)

section
variable {κ α : Type} [DecidableEq κ]
/-- What stands at a key is turned. -/
def amod (k : κ) (f : α → α) (l : List (κ × α)) : List (κ × α) := l.map fun q => if q.1 = k then (q.1, f q.2) else q
theorem aget_cons (k : κ) (y : κ × α) (r : List (κ × α)) : aget k (y :: r) = if y.1 = k then some y.2 else aget k r := by
  unfold aget
  by_cases h : y.1 = k <;> simp [h]
theorem aget_amod (k j : κ) (f : α → α) (l : List (κ × α)) : aget j (amod k f l) = if j = k then (aget j l).map f else aget j l := by
  induction l with
  | nil => simp [amod, aget]
  | cons y r ih =>
    have ih' : aget j (List.map (fun q : κ × α => if q.1 = k then (q.1, f q.2) else q) r) = if j = k then (aget j r).map f else aget j r := ih
    unfold amod
    rw [List.map_cons, aget_cons, aget_cons, ih']
    by_cases h : y.1 = k
    · by_cases h2 : y.1 = j
      · have : j = k := h2 ▸ h
        simp [h, this]
      · have : j ≠ k := fun e => h2 (h.trans e.symm)
        have h3 : ¬ k = j := fun e => this e.symm
        simp [h, h3, this]
    · by_cases h2 : y.1 = j
      · have : j ≠ k := fun e => h (h2.trans e)
        simp [h2, this]
      · simp [h, h2]
theorem amod_keys {β : Type} (k : κ) (f : α → α) (l : List (κ × α)) (g : κ → β) : (amod k f l).map (fun q => (q.1, g q.1)) = l.map fun q => (q.1, g q.1) := by
  unfold amod
  rw [List.map_map]
  apply List.map_congr_left
  intro q _
  by_cases h : q.1 = k <;> simp [h]
theorem amod_length (k : κ) (f : α → α) (l : List (κ × α)) : (amod k f l).length = l.length := by simp [amod]
theorem amod_sorted {lt : κ → κ → Bool} (k : κ) (f : α → α) {l : List (κ × α)} (h : ASorted lt l) : ASorted lt (amod k f l) := by
  unfold ASorted amod
  rw [List.pairwise_map]
  refine List.Pairwise.imp (fun {a b} hab => ?_) h
  by_cases h1 : a.1 = k <;> by_cases h2 : b.1 = k <;> simp_all
theorem aget_of_mem {lt : κ → κ → Bool} (L : LtLaws lt) {l : List (κ × α)} (h : ASorted lt l) {q : κ × α} (hq : q ∈ l) : aget q.1 l = some q.2 := h.get L hq
end

/-- The tree that is new. -/
def freshM (kind : Int) : ItM := ⟨kind, 1, 0, decide (kind = 2), [], []⟩
def newM : TrM := [(0, freshM 2)]

/-- The node at names, below one. -/
def lookM (T : TrM) : Int → List Nm → Int × Int
  | id, [] => (id, 0)
  | id, n :: r => match aget id T with
    | none => (0, 20)
    | some x => if x.kind = 2 then (match aget n x.names with
      | none => (0, 20)
      | some k => lookM T k r) else (0, 23)
def kindM (T : TrM) (id : Int) : Int := match aget id T with | some x => x.kind | none => 0
def namesM (T : TrM) (id : Int) : List (Nm × Int) := match aget id T with | some x => x.names | none => []
/-- The directory, and the name in it; a refusal. -/
def placeM (T : TrM) (p : List Nm) : Int × Nm × Int :=
  if p = [] then (0, [], 1) else
  if (lookM T 0 p.dropLast).2 ≠ 0 then (0, [], (lookM T 0 p.dropLast).2) else
  if kindM T (lookM T 0 p.dropLast).1 = 2 then ((lookM T 0 p.dropLast).1, p.getLastD [], 0) else (0, [], 23)
/-- The least that is free. -/
def freeM (T : TrM) : Int := (((List.range (T.length + 1)).map fun n : Nat => (n : Int) + 1).find? fun n => (aget n T).isNone).getD 0
def setName (T : TrM) (d : Int) (n : Nm) (id : Int) : TrM := amod d (fun x => { x with names := aput bytesBefore n id x.names }) T
def cutName (T : TrM) (d : Int) (n : Nm) : TrM := amod d (fun x => { x with names := adel n x.names }) T
def makeOk (T : TrM) (p : List Nm) (kind : Int) : TrM := setName (aput ilt (freeM T) (freshM kind) T) (placeM T p).1 (placeM T p).2.1 (freeM T)
def makeE (T : TrM) (p : List Nm) (kind : Int) : Int :=
  if fineL p ≠ 0 then fineL p else
  if ¬ (kind = 1 ∨ kind = 2) then 30 else
  if (placeM T p).2.2 ≠ 0 then (placeM T p).2.2 else
  if (aget (placeM T p).2.1 (namesM T (placeM T p).1)).isSome then 21 else
  if 64 ≤ T.length then 4 else 0
def makeM (T : TrM) (p : List Nm) (kind : Int) : (Int × Int) × TrM :=
  if makeE T p kind = 0 then ((freeM T, 0), makeOk T p kind) else ((0, makeE T p kind), T)
def fileE (T : TrM) (id : Int) : Int := match aget id T with | none => 20 | some x => if x.kind = 2 then 22 else 0
def appendE (T : TrM) (id : Int) (b : List UInt8) : Int := match aget id T with
  | none => 20
  | some x => if x.kind = 2 then 22 else if x.closed then 27 else if 4096 < x.b.length + b.length then 15 else 0
def appendM (T : TrM) (id : Int) (b : List UInt8) : Int × TrM := (appendE T id b, if appendE T id b = 0 then amod id (fun x => { x with b := x.b ++ b }) T else T)
def partE (at_ n : Int) : Int := if at_ < 0 ∨ n < 0 then 1 else 0
def partB (b : List UInt8) (at_ n : Int) : List UInt8 := if at_ < 0 ∨ n < 0 then [] else (b.drop at_.toNat).take n.toNat
def readE (T : TrM) (id at_ n : Int) : Int := match aget id T with | none => 20 | some x => if x.kind = 2 then 22 else partE at_ n
def readB (T : TrM) (id at_ n : Int) : List UInt8 := match aget id T with | none => [] | some x => if x.kind = 2 then [] else partB x.b at_ n
/-- A closed file without names is gone. -/
def settleM (T : TrM) (id : Int) : TrM := match aget id T with
  | none => T
  | some x => if x.links = 0 ∧ x.closed = true then adel id T else T
def sealE (T : TrM) (id til : Int) : Int := match aget id T with
  | none => 20
  | some x => if x.kind = 2 then 22 else if x.closed then 27 else if 1099511627776 < til then 1 else 0
def sealM (T : TrM) (id til : Int) : Int × TrM := (sealE T id til, if sealE T id til = 0 then settleM (amod id (fun x => { x with closed := true, til := til }) T) id else T)
def keepE (T : TrM) (id til : Int) : Int := match aget id T with
  | none => 20
  | some x => if x.kind = 2 then 22 else if x.closed = false then 25 else if til < x.til then 28 else if 1099511627776 < til then 1 else 0
def keepM (T : TrM) (id til : Int) : Int × TrM := (keepE T id til, if keepE T id til = 0 then amod id (fun x => { x with til := til }) T else T)
def dropE (T : TrM) (id : Int) : Int := match aget id T with
  | none => 20
  | some x => if x.kind = 2 then 22 else if x.closed then 27 else 0
def dropOk (T : TrM) (id : Int) : TrM := adel id (T.map fun q => (q.1, { q.2 with names := q.2.names.filter fun e => !decide (e.2 = id) }))
def dropM (T : TrM) (id : Int) : Int × TrM := (dropE T id, if dropE T id = 0 then dropOk T id else T)
def fine2 (p to : List Nm) : Int := if fineL p ≠ 0 then fineL p else fineL to
def linksM (T : TrM) (id : Int) : Int := match aget id T with | some x => x.links | none => 0
def linkE (T : TrM) (p to : List Nm) : Int :=
  if fine2 p to ≠ 0 then fine2 p to else
  if (lookM T 0 p).2 ≠ 0 then (lookM T 0 p).2 else
  if kindM T (lookM T 0 p).1 = 2 then 22 else
  if (placeM T to).2.2 ≠ 0 then (placeM T to).2.2 else
  if (aget (placeM T to).2.1 (namesM T (placeM T to).1)).isSome then 21 else
  if 64 ≤ linksM T (lookM T 0 p).1 then 4 else 0
def linkOk (T : TrM) (p to : List Nm) : TrM := amod (lookM T 0 p).1 (fun x => { x with links := x.links + 1 }) (setName T (placeM T to).1 (placeM T to).2.1 (lookM T 0 p).1)
def linkM (T : TrM) (p to : List Nm) : Int × TrM := (linkE T p to, if linkE T p to = 0 then linkOk T p to else T)
def lookE (T : TrM) (p : List Nm) : Int × Int := if fineL p ≠ 0 then (0, fineL p) else lookM T 0 p
def unlinkE (T : TrM) (p : List Nm) : Int :=
  if (lookE T p).2 ≠ 0 then (lookE T p).2 else if kindM T (lookM T 0 p).1 = 2 then 22 else 0
def unlinkOk (T : TrM) (p : List Nm) : TrM := settleM (amod (lookM T 0 p).1 (fun x => { x with links := x.links - 1 }) (cutName T (placeM T p).1 (placeM T p).2.1)) (lookM T 0 p).1
def unlinkM (T : TrM) (p : List Nm) : Int × TrM := (unlinkE T p, if unlinkE T p = 0 then unlinkOk T p else T)
def rmdirE (T : TrM) (p : List Nm) : Int :=
  if (lookE T p).2 ≠ 0 then (lookE T p).2 else if kindM T (lookM T 0 p).1 ≠ 2 then 23 else if (lookM T 0 p).1 = 0 then 1 else if 0 < (namesM T (lookM T 0 p).1).length then 24 else 0
def rmdirOk (T : TrM) (p : List Nm) : TrM := adel (lookM T 0 p).1 (cutName T (placeM T p).1 (placeM T p).2.1)
def rmdirM (T : TrM) (p : List Nm) : Int × TrM := (rmdirE T p, if rmdirE T p = 0 then rmdirOk T p else T)

/-- How many names lead to a node. -/
def cn (k : Int) (x : ItM) : Nat := x.names.countP fun e => decide (e.2 = k)
def cntM (T : TrM) (k : Int) : Nat := (T.map fun q => cn k q.2).sum
/-- What holds of each tree, whatever is done. -/
structure Ok1 (x : ItM) : Prop where
  kind : x.kind = 1 ∨ x.kind = 2
  file : x.kind = 1 → x.names = []
  dir : x.kind = 2 → x.links = 1 ∧ x.closed = true ∧ x.b = [] ∧ x.til = 0
  gone : x.links = 0 → x.closed = false
  sorted : ASorted bytesBefore x.names
  good : ∀ e ∈ x.names, goodL e.1 = true
  size : x.b.length ≤ 4096
  links : 0 ≤ x.links ∧ x.links ≤ 64
  til : 0 ≤ x.til ∧ x.til ≤ 1099511627776
structure OkP (T : TrM) : Prop where
  sorted : ASorted ilt T
  root : kindM T 0 = 2
  each : ∀ k x, aget k T = some x → Ok1 x
  leads : ∀ k x, aget k T = some x → ∀ e ∈ x.names, (aget e.2 T).isSome = true ∧ e.2 ≠ 0
  len : T.length ≤ 64
  ids : ∀ k x, aget k T = some x → 0 ≤ k ∧ k ≤ 65535
structure OkM (T : TrM) : Prop extends OkP T where
  counts : ∀ k x, aget k T = some x → k ≠ 0 → (cntM T k : Int) = x.links

theorem kindM_some {T : TrM} {id : Int} (h : kindM T id = 2) : ∃ x, aget id T = some x ∧ x.kind = 2 := by
  unfold kindM at h
  cases hg : aget id T with
  | none => rw [hg] at h; cases h
  | some x => rw [hg] at h; exact ⟨x, rfl, h⟩
/-- What is looked up is there. -/
theorem lookM_there {T : TrM} (hT : OkM T) : ∀ (p : List Nm) (id : Int), (aget id T).isSome = true → (lookM T id p).2 = 0 → (aget (lookM T id p).1 T).isSome = true
  | [], id, h, _ => h
  | n :: r, id, h, he => by
    obtain ⟨x, hx⟩ := Option.isSome_iff_exists.1 h
    simp only [lookM, hx] at he ⊢
    split at he
    · rename_i hk
      rw [if_pos hk]
      cases hn : aget n x.names with
      | none => rw [hn] at he; cases he
      | some k =>
        rw [hn] at he
        exact lookM_there hT r k (hT.leads _ _ hx _ (aget_mem hn)).1 he
    · cases he
theorem root_there {T : TrM} (hT : OkM T) : (aget 0 T).isSome = true := by
  obtain ⟨x, h, _⟩ := kindM_some hT.root
  simp [h]
end Go.Proofs.YtmabllemjkcobaaGreatDoor
namespace Go.Proofs.YtmabllemjkcobaaGreatDoor
open Go.ChangeShapes Go.WideShapes Go.ChangeAt Go.RowKit
set_option linter.unusedVariables false
def intK : KeyFor Tryz.prog 3 Int where
  lit x := .int .i64 x
  val x := .int .i64 x
  ok x := (Lit.int .i64 x).wf = true
  lt a b := decide (a < b)
  law := Go.Maps.int_keyed Tryz.underlying3
  of x h := Go.Maps.keyOf_int_mk Tryz.underlying3 h
  inv v kl h := by
    obtain ⟨x, e1, e2, e3⟩ := Go.Maps.keyOf_int_inv Tryz.underlying3 h
    exact ⟨x, e1, e2, e3⟩
  same a b := by simp [Lit.sameKey]
  before a b := by simp [Lit.before]
  isKey a := by exact trivial
theorem intLt : LtLaws (fun a b : Int => decide (a < b)) := ⟨fun a => by simp, fun a b c h1 h2 => by simp at *; omega, fun a b h => by simp; omega⟩
end Go.Proofs.YtmabllemjkcobaaGreatDoor
namespace Go.Proofs.YtmabllemjkcobaaGreatDoor
open Go.ChangeShapes Go.WideShapes Go.ChangeAt Go.RowKit
set_option linter.unusedVariables false
set_option linter.unusedSimpArgs false

/-- What a block is to a tree. -/
inductive Own where
  | none
  | head
  | items
  | item (k : Int)
  | names (k : Int)
abbrev ptr (b : Nat) : Value := .pointer (some ⟨b, 0, none⟩)
def namesV (x : ItM) (nb : Nat) : Value := if x.kind = 2 then .map (some nb) else .map none
def itemCells (k : Int) (x : ItM) (a : Option Addr) (c nb : Nat) : Array Value :=
  #[.int .i64 k, .int .i64 x.kind, .int .i64 x.links, .int .i64 x.b.length, .int .u64 x.til, .bool x.closed, .slice a x.b.length c, namesV x nb]
def nameL (x : ItM) : List (Nm × Value) := x.names.map fun e => (e.1, .int .i64 e.2)
/-- A length and a capacity. -/
def CapOk (n c : Nat) : Prop := n ≤ c ∧ c ≤ maxLen
structure ItemAt (D : Nat → Prop) (w : World) (k : Int) (ib nb : Nat) (x : ItM) : Prop where
  cells : ∃ a c, w.heap[ib]? = some (.cells (itemCells k x a c nb) 94 (0, 0)) ∧ CapOk x.b.length c ∧ RowAt D w a x.b.length (x.b.map bv)
  names : x.kind = 2 → MapAt strK w nb (nameL x)
structure TreeAt (g : Nat → Own) (D : Nat → Prop) (w : World) (p mb : Nat) (ib nb : Int → Nat) (T : TrM) : Prop where
  head : w.heap[p]? = some (.cells #[.map (some mb)] 97 (0, 0))
  map : MapAt intK w mb (T.map fun q => (q.1, ptr (ib q.1)))
  item : ∀ k x, aget k T = some x → ItemAt D w k (ib k) (nb k) x
  tagp : g p = .head
  tagm : g mb = .items
  tagi : ∀ k x, aget k T = some x → g (ib k) = .item k
  tagn : ∀ k x, aget k T = some x → x.kind = 2 → g (nb k) = .names k
  data : ∀ b, D b → g b = .none
  low : ∀ b, g b ≠ .none → b < w.heap.size
  dlow : ∀ b, D b → b < w.heap.size

theorem ItemAt.move {D D' : Nat → Prop} {w w' : World} {k : Int} {ib nb : Nat} {x : ItM} (h : ItemAt D w k ib nb x) (hs : w.heap.size ≤ w'.heap.size) (hi : w'.heap[ib]? = w.heap[ib]?) (hn : x.kind = 2 → w'.heap[nb]? = w.heap[nb]?) (hD : ∀ b, D b → b < w.heap.size → D' b ∧ w'.heap[b]? = w.heap[b]?) : ItemAt D' w' k ib nb x := by
  obtain ⟨⟨a, c, h1, h2, h3⟩, h4⟩ := h
  exact ⟨⟨a, c, hi.trans h1, h2, h3.move hs hD⟩, fun hk => (h4 hk).kept (hn hk)⟩
theorem TreeAt.keeps {g : Nat → Own} {D fp : Nat → Prop} {w w' : World} {p mb : Nat} {ib nb : Int → Nat} {T : TrM} (h : TreeAt g D w p mb ib nb T) (hK : Keeps fp w w') (hn : ∀ b, g b ≠ .none ∨ D b → ¬ fp b) : TreeAt g D w' p mb ib nb T := by
  have hb : ∀ b, g b ≠ .none → w'.heap[b]? = w.heap[b]? := fun b hb => hK.block b (h.low b hb) (hn b (.inl hb))
  refine ⟨(hb p (by rw [h.tagp]; simp)).trans h.head, h.map.kept (hb mb (by rw [h.tagm]; simp)), fun k x hx => (h.item k x hx).move hK.size (hb _ (by rw [h.tagi k x hx]; simp)) (fun hk => hb _ (by rw [h.tagn k x hx hk]; simp)) fun b hb hbw => ⟨hb, hK.block b hbw (hn b (.inr hb))⟩,
    h.tagp, h.tagm, h.tagi, h.tagn, h.data, fun b hb => Nat.lt_of_lt_of_le (h.low b hb) hK.size, fun b hb => Nat.lt_of_lt_of_le (h.dlow b hb) hK.size⟩
theorem TreeAt.below {g : Nat → Own} {D : Nat → Prop} {w w' : World} {B p mb : Nat} {ib nb : Int → Nat} {T : TrM} (h : TreeAt g D w p mb ib nb T) (hb : Below B w w') (hB : w.heap.size ≤ B) : TreeAt g D w' p mb ib nb T :=
  h.keeps (fp := fun x => B ≤ x) (Keeps.below hb) fun b hx hf => by
    rcases hx with hx | hx
    · have := h.low b hx; omega
    · have := h.dlow b hx; omega
/-- One node is turned. -/
theorem TreeAt.amod {g : Nat → Own} {D D' : Nat → Prop} {w w' : World} {p mb : Nat} {ib nb : Int → Nat} {T : TrM} (h : TreeAt g D w p mb ib nb T) {k : Int} {x : ItM} {f : ItM → ItM} (hx : aget k T = some x) (hfk : (f x).kind = x.kind)
    (hD : ∀ b, D b → D' b) (hD' : ∀ b, D' b → g b = .none ∧ b < w'.heap.size) (hsz : w.heap.size ≤ w'.heap.size) (hb : ∀ b, b < w.heap.size → g b ≠ .item k → g b ≠ .names k → w'.heap[b]? = w.heap[b]?) (hi : ItemAt D' w' k (ib k) (nb k) (f x)) :
    TreeAt g D' w' p mb ib nb (amod k f T) := by
  refine ⟨(hb p (h.low p (by rw [h.tagp]; simp)) (by rw [h.tagp]; simp) (by rw [h.tagp]; simp)).trans h.head, ?_, ?_, h.tagp, h.tagm, ?_, ?_, fun b hb => (hD' b hb).1, fun b hb => Nat.lt_of_lt_of_le (h.low b hb) hsz, fun b hb => (hD' b hb).2⟩
  · have := h.map.kept (hb mb (h.low mb (by rw [h.tagm]; simp)) (by rw [h.tagm]; simp) (by rw [h.tagm]; simp))
    rw [amod_keys k f T (fun j => ptr (ib j))]
    exact this
  · intro j y hy
    rw [aget_amod] at hy
    by_cases hj : j = k
    · subst hj
      rw [if_pos rfl, hx] at hy
      simp only [Option.map_some, Option.some.injEq] at hy
      subst hy
      exact hi
    · rw [if_neg hj] at hy
      refine (h.item j y hy).move hsz (hb _ (h.low _ (by rw [h.tagi j y hy]; simp)) (by rw [h.tagi j y hy]; simpa using hj) (by rw [h.tagi j y hy]; simp)) (fun hk => hb _ (h.low _ (by rw [h.tagn j y hy hk]; simp)) (by rw [h.tagn j y hy hk]; simp) (by rw [h.tagn j y hy hk]; simpa using hj)) ?_
      intro b hDb hbw
      refine ⟨hD b hDb, hb b hbw ?_ ?_⟩ <;> rw [h.data b hDb] <;> simp
  · intro j y hy
    rw [aget_amod] at hy
    by_cases hj : j = k
    · subst hj; exact h.tagi j x hx
    · rw [if_neg hj] at hy; exact h.tagi j y hy
  · intro j y hy hk
    rw [aget_amod] at hy
    by_cases hj : j = k
    · subst hj
      rw [if_pos rfl, hx] at hy
      simp only [Option.map_some, Option.some.injEq] at hy
      subst hy
      exact h.tagn j x hx (hfk ▸ hk)
    · rw [if_neg hj] at hy; exact h.tagn j y hy hk
theorem ains_mapK {κ α β : Type} (lt : κ → κ → Bool) (f : κ → α → β) (x : κ × α) : ∀ l : List (κ × α), (ains lt x l).map (fun p => (p.1, f p.1 p.2)) = ains lt (x.1, f x.1 x.2) (l.map fun p => (p.1, f p.1 p.2))
  | [] => rfl
  | y :: r => by
    unfold ains
    simp only [List.map_cons]
    split <;> simp [ains_mapK lt f x r]
theorem adel_mapK {κ α β : Type} [DecidableEq κ] (f : κ → α → β) (k : κ) (l : List (κ × α)) : (adel k l).map (fun p => (p.1, f p.1 p.2)) = adel k (l.map fun p => (p.1, f p.1 p.2)) := by
  simp [adel, List.filter_map, Function.comp_def]
theorem aput_mapK {κ α β : Type} [DecidableEq κ] (lt : κ → κ → Bool) (f : κ → α → β) (k : κ) (v : α) (l : List (κ × α)) : (aput lt k v l).map (fun p => (p.1, f p.1 p.2)) = aput lt k (f k v) (l.map fun p => (p.1, f p.1 p.2)) := by
  simp only [aput, ains_mapK, adel_mapK]
theorem aget_aput {κ α : Type} [DecidableEq κ] (lt : κ → κ → Bool) (k j : κ) (v : α) (l : List (κ × α)) : aget j (aput lt k v l) = if j = k then some v else aget j l := by
  by_cases h : j = k
  · subst h; rw [if_pos rfl, aget_aput_same]
  · rw [if_neg h, aget_aput_other lt h]
theorem aget_adel {κ α : Type} [DecidableEq κ] (k j : κ) (l : List (κ × α)) : aget j (adel k l) = if j = k then none else aget j l := by
  by_cases h : j = k
  · subst h; rw [if_pos rfl, aget_adel_same]
  · rw [if_neg h, aget_adel_other h]
/-- A node is new. -/
theorem TreeAt.add {g : Nat → Own} {D : Nat → Prop} {w w' : World} {p mb : Nat} {ib nb : Int → Nat} {T : TrM} (h : TreeAt g D w p mb ib nb T) {k : Int} {x : ItM} {i n : Nat} (hi0 : w.heap.size ≤ i) (hn0 : w.heap.size ≤ n) (hin : i ≠ n) (hiw : i < w'.heap.size) (hnw : x.kind = 2 → n < w'.heap.size) (hx0 : aget k T = none) (hxb : x.b = [])
    (hm : MapAt intK w' mb (aput ilt k (ptr i) (T.map fun q => (q.1, ptr (ib q.1))))) (hsz : w.heap.size ≤ w'.heap.size) (hb : ∀ b, b < w.heap.size → b ≠ mb → w'.heap[b]? = w.heap[b]?) (hi : ItemAt (fun _ => False) w' k i n x) :
    TreeAt (fun b => if b = i then .item k else if b = n ∧ x.kind = 2 then .names k else g b) D w' p mb (fun j => if j = k then i else ib j) (fun j => if j = k then n else nb j) (aput ilt k x T) := by
  have hgl : ∀ b, g b ≠ .none → b ≠ i ∧ b ≠ n := fun b hb => by have := h.low b hb; omega
  have hgg : ∀ b, g b ≠ .none → (if b = i then Own.item k else if b = n ∧ x.kind = 2 then .names k else g b) = g b := fun b hb => by
    obtain ⟨h1, h2⟩ := hgl b hb
    rw [if_neg h1, if_neg (fun h => h2 h.1)]
  have hp : g p ≠ .none := by rw [h.tagp]; simp
  have hmm : g mb ≠ .none := by rw [h.tagm]; simp
  refine ⟨(hb p (h.low p hp) (fun e => by have := h.tagp; rw [e, h.tagm] at this; cases this)).trans h.head, ?_, ?_, (hgg p hp).trans h.tagp, (hgg mb hmm).trans h.tagm, ?_, ?_, ?_, ?_, fun b hb => Nat.lt_of_lt_of_le (h.dlow b hb) hsz⟩
  · have e1 : (aput ilt k x T).map (fun q => (q.1, ptr ((fun j => if j = k then i else ib j) q.1))) = aput ilt k (ptr i) (T.map fun q => (q.1, ptr (ib q.1))) := by
      rw [aput_mapK ilt (fun j _ => ptr ((fun j => if j = k then i else ib j) j))]
      simp only [if_pos]
      congr 1
      apply List.map_congr_left
      intro q hq
      have : q.1 ≠ k := aget_none.1 hx0 q hq
      rw [if_neg this]
    rw [e1]
    exact hm
  · intro j y hy
    rw [aget_aput] at hy
    by_cases hj : j = k
    · subst hj
      rw [if_pos rfl] at hy
      cases hy
      simp only [if_pos]
      refine hi.move (Nat.le_refl _) rfl (fun _ => rfl) (fun b hb => hb.elim)
    · rw [if_neg hj] at hy
      simp only [if_neg hj]
      have t1 := h.tagi j y hy
      refine (h.item j y hy).move hsz (hb _ (h.low _ (by rw [t1]; simp)) (fun e => by rw [e, h.tagm] at t1; cases t1)) (fun hk => hb _ (h.low _ (by rw [h.tagn j y hy hk]; simp)) (fun e => by have t2 := h.tagn j y hy hk; rw [e, h.tagm] at t2; cases t2)) ?_
      intro b hDb hbw
      exact ⟨hDb, hb b hbw (fun e => by have := h.data b hDb; rw [e, h.tagm] at this; cases this)⟩
  · intro j y hy
    rw [aget_aput] at hy
    by_cases hj : j = k
    · subst hj; simp
    · rw [if_neg hj] at hy
      have t1 := h.tagi j y hy
      simp only [if_neg hj]
      rw [hgg _ (by rw [t1]; simp)]
      exact t1
  · intro j y hy hk
    rw [aget_aput] at hy
    by_cases hj : j = k
    · subst hj
      rw [if_pos rfl] at hy
      cases hy
      simp only [if_pos]
      rw [if_neg (Ne.symm hin), if_pos ⟨trivial, hk⟩]
    · rw [if_neg hj] at hy
      have t1 := h.tagn j y hy hk
      simp only [if_neg hj]
      rw [hgg _ (by rw [t1]; simp)]
      exact t1
  · intro b hDb
    have := h.dlow b hDb
    rw [if_neg (by omega), if_neg (by omega)]
    exact h.data b hDb
  · intro b hbn
    by_cases h1 : b = i
    · omega
    · by_cases h2 : b = n ∧ x.kind = 2
      · have := hnw h2.2; omega
      · simp only [if_neg h1, if_neg h2] at hbn
        exact Nat.lt_of_lt_of_le (h.low b hbn) hsz
/-- A node is gone. -/
theorem TreeAt.del {g : Nat → Own} {D : Nat → Prop} {w w' : World} {p mb : Nat} {ib nb : Int → Nat} {T : TrM} (h : TreeAt g D w p mb ib nb T) {k : Int}
    (hm : MapAt intK w' mb (adel k (T.map fun q => (q.1, ptr (ib q.1))))) (hsz : w.heap.size ≤ w'.heap.size) (hb : ∀ b, b < w.heap.size → b ≠ mb → w'.heap[b]? = w.heap[b]?) : TreeAt g D w' p mb ib nb (adel k T) := by
  have hp : g p ≠ .none := by rw [h.tagp]; simp
  have hget : ∀ j y, aget j (adel k T) = some y → aget j T = some y := fun j y hy => by
    rw [aget_adel] at hy
    split at hy
    · cases hy
    · exact hy
  refine ⟨(hb p (h.low p hp) (fun e => by have := h.tagp; rw [e, h.tagm] at this; cases this)).trans h.head, ?_, ?_, h.tagp, h.tagm, fun j y hy => h.tagi j y (hget j y hy), fun j y hy => h.tagn j y (hget j y hy), h.data, fun b hb => Nat.lt_of_lt_of_le (h.low b hb) hsz, fun b hb => Nat.lt_of_lt_of_le (h.dlow b hb) hsz⟩
  · rw [adel_mapK (fun j _ => ptr (ib j))]; exact hm
  · intro j y hy'
    have hy := hget j y hy'
    have t1 := h.tagi j y hy
    refine (h.item j y hy).move hsz (hb _ (h.low _ (by rw [t1]; simp)) (fun e => by rw [e, h.tagm] at t1; cases t1)) (fun hk => hb _ (h.low _ (by rw [h.tagn j y hy hk]; simp)) (fun e => by have t2 := h.tagn j y hy hk; rw [e, h.tagm] at t2; cases t2)) ?_
    intro b hDb hbw
    exact ⟨hDb, hb b hbw (fun e => by have := h.data b hDb; rw [e, h.tagm] at this; cases this)⟩
theorem aget_mapK {κ α β : Type} [DecidableEq κ] (f : κ → α → β) (k : κ) (l : List (κ × α)) : aget k (l.map fun p => (p.1, f p.1 p.2)) = (aget k l).map (f k) := by
  induction l with
  | nil => rfl
  | cons y r ih =>
    rw [List.map_cons, aget_cons, aget_cons, ih]
    by_cases h : y.1 = k
    · subst h; simp
    · simp [h]
theorem aget_ptr (ib : Int → Nat) (T : TrM) (k : Int) : aget k (T.map fun q => (q.1, ptr (ib q.1))) = (aget k T).map fun _ => ptr (ib k) := aget_mapK (fun j (_ : ItM) => ptr (ib j)) k T
theorem aget_nameL (x : ItM) (n : Nm) : aget n (nameL x) = (aget n x.names).map fun i => (.int .i64 i : Value) := aget_mapK (fun (_ : Nm) (i : Int) => Value.int .i64 i) n x.names
/-- An item's cells. -/
theorem ItemAt.cell {D : Nat → Prop} {w : World} {k : Int} {ib nb : Nat} {x : ItM} (h : ItemAt D w k ib nb x) :
    w.cell? ⟨ib, 0, none⟩ = some (.int .i64 k) ∧ w.cell? ⟨ib, 1, none⟩ = some (.int .i64 x.kind) ∧ w.cell? ⟨ib, 2, none⟩ = some (.int .i64 x.links) ∧ w.cell? ⟨ib, 3, none⟩ = some (.int .i64 x.b.length) ∧ w.cell? ⟨ib, 4, none⟩ = some (.int .u64 x.til) ∧ w.cell? ⟨ib, 5, none⟩ = some (.bool x.closed) ∧ w.cell? ⟨ib, 7, none⟩ = some (namesV x nb) ∧ ib < w.heap.size := by
  obtain ⟨⟨a, c, h1, _⟩, _⟩ := h
  have := (Array.getElem?_eq_some_iff.1 h1).1
  refine ⟨?_, ?_, ?_, ?_, ?_, ?_, ?_, this⟩ <;> (simp only [World.cell?, h1]; rfl)
theorem TreeAt.cell {g : Nat → Own} {D : Nat → Prop} {w : World} {p mb : Nat} {ib nb : Int → Nat} {T : TrM} (h : TreeAt g D w p mb ib nb T) : w.cell? ⟨p, 0, none⟩ = some (.map (some mb)) ∧ p < w.heap.size ∧ mb < w.heap.size := by
  have := (Array.getElem?_eq_some_iff.1 h.head).1
  exact ⟨by simp [World.cell?, h.head], this, h.map.lt⟩
end Go.Proofs.YtmabllemjkcobaaGreatDoor
