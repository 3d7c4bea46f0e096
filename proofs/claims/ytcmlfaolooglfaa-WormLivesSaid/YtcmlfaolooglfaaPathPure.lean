/- Plain laws of names and paths: lists of bytes alone. -/
import Derived.Test.YtcmlfaolooglfaaPathB
import Derived.Lib.Split
import Derived.Lib.SplitLaws
import Derived.Lib.Join
namespace Go.Proofs.Ytcmlfaolooglfaa
set_option linter.unusedVariables false
open Go

/-- Cut at each '/'. -/
def splitL : List UInt8 → List (List UInt8)
  | [] => [[]]
  | c :: r => if c = 47 then [] :: splitL r else match splitL r with | [] => [[c]] | x :: xs => (c :: x) :: xs

theorem splitL_ne (l : List UInt8) : splitL l ≠ [] := by
  induction l with
  | nil => simp [splitL]
  | cons c r ih => unfold splitL; split <;> (try split) <;> simp

theorem splitL_cons_ne (c : UInt8) (r : List UInt8) (h : c ≠ 47) : ∃ x xs, splitL r = x :: xs ∧ splitL (c :: r) = (c :: x) :: xs := by
  cases hr : splitL r with
  | nil => exact absurd hr (splitL_ne r)
  | cons x xs => exact ⟨x, xs, rfl, by simp [splitL, h, hr]⟩

theorem splitL_none (l : List UInt8) (h : ∀ c ∈ l, c ≠ 47) : splitL l = [l] := by
  induction l with
  | nil => rfl
  | cons c r ih =>
    have h1 := ih (fun x hx => h x (List.mem_cons_of_mem _ hx))
    simp [splitL, h c (by simp), h1]

theorem splitL_at (a r : List UInt8) (h : ∀ c ∈ a, c ≠ 47) : splitL (a ++ 47 :: r) = a :: splitL r := by
  induction a with
  | nil => simp [splitL]
  | cons c a ih =>
    have h1 := ih (fun x hx => h x (List.mem_cons_of_mem _ hx))
    simp [splitL, h c (by simp), h1]

theorem splitL_pieces (l : List UInt8) : ∀ x ∈ splitL l, ∀ c ∈ x, c ≠ 47 := by
  induction l with
  | nil => intro x hx c hc; simp [splitL] at hx; subst hx; cases hc
  | cons c r ih =>
    by_cases h : c = 47
    · intro x hx d hd
      simp only [splitL, h, if_true, List.mem_cons] at hx
      rcases hx with rfl | hx
      · cases hd
      · exact ih x hx d hd
    · obtain ⟨y, ys, e1, e2⟩ := splitL_cons_ne c r h
      intro x hx d hd
      rw [e2] at hx
      rw [e1] at ih
      rcases List.mem_cons.1 hx with rfl | hx
      · rcases List.mem_cons.1 hd with rfl | hd
        · exact h
        · exact ih y (by simp) d hd
      · exact ih x (by simp [hx]) d hd

theorem join_split (l : List UInt8) : Lib.join (splitL l) [47] = l := by
  induction l with
  | nil => rfl
  | cons c r ih =>
    by_cases h : c = 47
    · subst h
      cases hr : splitL r with
      | nil => exact absurd hr (splitL_ne r)
      | cons x xs =>
        rw [hr] at ih
        simp only [splitL, if_true, hr]
        rw [Lib.join_cons] at ih ⊢
        simp only [Lib.joinTail, List.map_cons, List.flatten_cons] at ih ⊢
        simpa using ih
    · obtain ⟨x, xs, e1, e2⟩ := splitL_cons_ne c r h
      rw [e1] at ih
      rw [e2, Lib.join_cons]
      rw [Lib.join_cons] at ih
      rw [List.cons_append, ih]

theorem split_join (ls : List (List UInt8)) (hne : ls ≠ []) (h : ∀ x ∈ ls, ∀ c ∈ x, c ≠ 47) : splitL (Lib.join ls [47]) = ls := by
  induction ls with
  | nil => exact absurd rfl hne
  | cons x r ih =>
    cases r with
    | nil => rw [Lib.join_one]; exact splitL_none x (h x (by simp))
    | cons y r =>
      have h1 := ih (by simp) (fun z hz => h z (List.mem_cons_of_mem _ hz))
      have e : Lib.join (x :: y :: r) [47] = x ++ 47 :: Lib.join (y :: r) [47] := by
        rw [Lib.join_cons, Lib.join_cons]; simp [Lib.joinTail]
      rw [e, splitL_at x _ (h x (by simp)), h1]

theorem good_no_slash (l : List UInt8) (h : goodL l = true) : ∀ c ∈ l, c ≠ 47 := by
  intro c hc e
  subst e
  simp only [goodL, Bool.and_eq_true, List.all_eq_true] at h
  have := h.1.1.1.1 47 hc
  exact absurd this (by decide)

theorem splitL_le (l : List UInt8) : ∀ x ∈ splitL l, x.length ≤ l.length := by
  induction l with
  | nil => intro x hx; simp [splitL] at hx; subst hx; simp
  | cons c r ih =>
    by_cases h : c = 47
    · intro x hx
      simp only [splitL, h, if_true, List.mem_cons] at hx
      rcases hx with rfl | hx
      · simp
      · have := ih x hx; simp; omega
    · obtain ⟨y, ys, e1, e2⟩ := splitL_cons_ne c r h
      intro x hx
      rw [e2] at hx
      rw [e1] at ih
      rcases List.mem_cons.1 hx with rfl | hx
      · have := ih y (by simp); simp; omega
      · have := ih x (by simp [hx]); simp; omega
theorem splitL_length (l : List UInt8) : (splitL l).length = l.count 47 + 1 := by
  induction l with
  | nil => rfl
  | cons c r ih =>
    by_cases h : c = 47
    · subst h; simp [splitL, ih]
    · obtain ⟨y, ys, e1, e2⟩ := splitL_cons_ne c r h
      rw [e2, List.count_cons_of_ne h]
      rw [e1] at ih
      simpa using ih

/-- The library's cut at "/" is ours. -/
theorem splitK_eq (l : List UInt8) : ∀ k, l.count 47 ≤ k → Lib.splitK [47] 0 k l = splitL l := by
  induction l with
  | nil =>
    intro k _
    cases k <;> simp [Lib.splitK, splitL, Lib.index]
  | cons c r ih =>
    intro k hk
    cases k with
    | zero =>
      have : ∀ x ∈ c :: r, x ≠ 47 := by
        intro x hx e
        subst e
        have := List.count_pos_iff.2 hx
        omega
      rw [splitL_none _ this]
      rfl
    | succ k =>
      by_cases h : c = 47
      · subst h
        have e : Lib.index (47 :: r) [47] = 0 := by simp [Lib.index]
        have hk' : r.count 47 ≤ k := by simp at hk; omega
        simp only [Lib.splitK, e, splitL, if_true]
        have h1 : ((0 : Int) == -1) = false := by decide
        rw [h1]
        simp [ih k hk']
      · have hpre : ([47] : List UInt8).isPrefixOf (c :: r) = false := by
          simp [List.isPrefixOf]
          exact fun e => h e.symm
        have hk' : r.count 47 ≤ k + 1 := by
          rw [List.count_cons_of_ne h] at hk
          omega
        have h2 := ih (k + 1) hk'
        obtain ⟨x, xs, e1, e2⟩ := splitL_cons_ne c r h
        rw [e2]
        rw [e1] at h2
        simp only [Lib.splitK, Lib.index, hpre] at h2 ⊢
        by_cases hi : Lib.index r [47] = -1
        · simp only [hi] at h2 ⊢
          simp at h2 ⊢
          rw [h2.1, h2.2]
          simp
        · have hge := Lib.index_ge r [47]
          have b1 : (Lib.index r [47] == -1) = false := by simpa using hi
          have b2 : (Lib.index r [47] + 1 == -1) = false := by simp; omega
          rw [b1] at h2
          simp only [b1, Bool.false_eq_true, if_false, b2] at h2 ⊢
          obtain ⟨i, hi2⟩ : ∃ i : Nat, Lib.index r [47] = i := ⟨(Lib.index r [47]).toNat, by omega⟩
          rw [hi2] at h2 ⊢
          have t1 : ((i : Int) + 1).toNat = i + 1 := by omega
          rw [t1]
          simp only [Int.toNat_natCast, Nat.add_zero, List.cons.injEq, List.length_singleton] at h2 ⊢
          obtain ⟨g1, g2⟩ := h2
          refine ⟨by simp [← g1], ?_⟩
          rw [← g2]
          simp

def fineL (ls : List (List UInt8)) : Int := if ls.any (fun x => !goodL x) then 12 else if 8 < ls.length then 3 else 0

/-- What path.Split says. -/
def pathSplit (l : List UInt8) : List (List UInt8) × Int :=
  match l with
  | [] => ([], 12)
  | c :: r => if c ≠ 47 then ([], 12) else if r = [] then ([], 0) else if fineL (splitL r) = 0 then (splitL r, 0) else ([], fineL (splitL r))
def pathJoin (ls : List (List UInt8)) : List UInt8 := 47 :: Lib.join ls [47]

theorem splitB_ours (s : ByteArray) : (Lib.splitB ⟨#[47]⟩ 0 (Lib.countB s ⟨#[47]⟩) s).map (fun x => x.data.toList) = splitL s.data.toList ∧ Lib.countB s ⟨#[47]⟩ = s.data.toList.count 47 := by
  have hc : Lib.countB s ⟨#[47]⟩ = s.data.toList.count 47 := Lib.count_one 47 _
  refine ⟨?_, hc⟩
  have := Lib.splitB_data ⟨#[47]⟩ 0 (Lib.countB s ⟨#[47]⟩) s
  exact this.trans (splitK_eq _ _ (by rw [hc]; exact Nat.le_refl _))
end Go.Proofs.Ytcmlfaolooglfaa
