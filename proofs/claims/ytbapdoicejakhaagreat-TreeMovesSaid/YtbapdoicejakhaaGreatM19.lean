/- All paths of a node, plainly. What the law asks of Names, plainly. How many nodes have a lesser ID. All paths, whatever the order of a directory's names. slices.Clone of texts: the new row is one's own. What names of package tree gives: paths, behind what was there. path.Join; what Names of package tree orders by. -/
import Derived.Test.YtbapdoicejakhaaGreatM18
import Derived.Test.YtbapdoicejakhaaGreatM09
import Derived.Test.YtbapdoicejakhaaGreatM12
namespace Go.Proofs.YtbapdoicejakhaaGreat
open Go.ChangeShapes Go.WideShapes Go.ChangeAt Go.RowKit
set_option linter.unusedVariables false
set_option linter.unusedSimpArgs false

/-- The paths of a node below another one, behind p. -/
def pathsM (T : TrM) (id : Int) : Nat → Int → List Nm → List (List Nm)
  | 0, a, p => if a = id then [p] else []
  | n + 1, a, p => (if a = id then [p] else []) ++ (namesM T a).flatMap fun e => pathsM T id n e.2 (p ++ [e.1])
theorem paths_long {T : TrM} {id : Int} : ∀ (n : Nat) (a : Int) (p q : List Nm), q ∈ pathsM T id n a p → ∃ s, q = p ++ s
  | 0, a, p, q, h => by
    unfold pathsM at h
    split at h
    · simp only [List.mem_singleton] at h
      exact ⟨[], by simp [h]⟩
    · cases h
  | n + 1, a, p, q, h => by
    unfold pathsM at h
    rcases List.mem_append.1 h with h | h
    · split at h
      · simp only [List.mem_singleton] at h
        exact ⟨[], by simp [h]⟩
      · cases h
    · obtain ⟨e, _, he⟩ := List.mem_flatMap.1 h
      obtain ⟨s, hs⟩ := paths_long n e.2 _ q he
      exact ⟨e.1 :: s, by rw [hs]; simp⟩
/-- .. are just those that lead to it. -/
theorem mem_paths {T : TrM} (hT : OkM T) {id : Int} : ∀ (n : Nat) (a : Int) (p q : List Nm), (aget a T).isSome = true → Shal T n a → (q ∈ pathsM T id n a p ↔ ∃ s, q = p ++ s ∧ lookM T a s = (id, 0))
  | 0, a, p, q, ha, hs => by
    unfold pathsM
    constructor
    · intro h
      split at h
      · rename_i he
        simp only [List.mem_singleton] at h
        exact ⟨[], by simp [h], by simp [lookM, he]⟩
      · cases h
    · rintro ⟨s, rfl, hl⟩
      cases s with
      | nil =>
        have : a = id := congrArg Prod.fst hl
        rw [if_pos this]
        simp
      | cons m r =>
        obtain ⟨x, k, hx, _, hn, _⟩ := look_cons hl
        have h1 : namesM T a = [] := hs
        rw [namesM_of hx] at h1
        rw [h1] at hn
        cases hn
  | n + 1, a, p, q, ha, hs => by
    unfold pathsM
    rw [List.mem_append, List.mem_flatMap]
    constructor
    · rintro (h | ⟨e, he, h⟩)
      · split at h
        · rename_i he
          simp only [List.mem_singleton] at h
          exact ⟨[], by simp [h], by simp [lookM, he]⟩
        · cases h
      · obtain ⟨x, hx, hm⟩ := mem_namesM he
        obtain ⟨s, h1, h2⟩ := (mem_paths hT n e.2 _ q (hT.leads a x hx e hm).1 (hs e he)).1 h
        refine ⟨e.1 :: s, by rw [h1]; simp, ?_⟩
        unfold lookM
        rw [hx]
        simp only
        rw [if_pos (names_dir hT hx hm), aget_of_mem bbLt (hT.each a x hx).sorted hm]
        exact h2
    · rintro ⟨s, rfl, hl⟩
      cases s with
      | nil =>
        have : a = id := congrArg Prod.fst hl
        left
        rw [if_pos this]
        simp
      | cons m r =>
        obtain ⟨x, k, hx, _, hn, hr⟩ := look_cons hl
        have he : (m, k) ∈ namesM T a := by rw [namesM_of hx]; exact aget_mem hn
        exact .inr ⟨(m, k), he, (mem_paths hT n k _ _ (hT.leads a x hx _ (aget_mem hn)).1 (hs _ he)).2 ⟨r, by simp, hr⟩⟩
theorem names_sorted {T : TrM} (hT : OkM T) (a : Int) : (namesM T a).Pairwise fun e e' => e.1 ≠ e'.1 := by
  unfold namesM
  cases hx : aget a T with
  | none => exact List.Pairwise.nil
  | some x => exact (hT.each a x hx).sorted.apart bbLt
theorem paths_nodup {T : TrM} (hT : OkM T) {id : Int} : ∀ (n : Nat) (a : Int) (p : List Nm), (pathsM T id n a p).Nodup
  | 0, a, p => by
    unfold pathsM
    split <;> simp
  | n + 1, a, p => by
    unfold pathsM
    rw [List.nodup_append]
    refine ⟨by split <;> simp, ?_, fun q hq q' hq' => ?_⟩
    · unfold List.Nodup
      rw [List.pairwise_flatMap]
      refine ⟨fun e _ => paths_nodup hT n e.2 _, (names_sorted hT a).imp fun {e e'} hne q hq q' hq' he => ?_⟩
      obtain ⟨s, h1⟩ := paths_long n e.2 _ q hq
      obtain ⟨s', h2⟩ := paths_long n e'.2 _ q' hq'
      rw [h1, h2, List.append_assoc, List.append_assoc] at he
      have := List.append_cancel_left he
      simp only [List.singleton_append, List.cons.injEq] at this
      exact hne this.1
    · split at hq
      · simp only [List.mem_singleton] at hq
        subst hq
        obtain ⟨e, _, he⟩ := List.mem_flatMap.1 hq'
        obtain ⟨s, h2⟩ := paths_long n e.2 _ q' he
        intro heq
        have := congrArg List.length (heq.trans h2)
        simp at this
      · cases hq
/-- Each directory is found. -/
theorem dir_reach {T : TrM} {dep : Int → Nat} (hT : OkM T) (hd : DepthOk T dep) : ∀ (n : Nat) (d : Int), dep d ≤ n → kindM T d = 2 → ∃ q, lookM T 0 q = (d, 0)
  | n, d, hn, hk => by
    by_cases h0 : d = 0
    · exact ⟨[], by rw [h0]; rfl⟩
    · obtain ⟨x, hx, hxk⟩ := kindM_some hk
      have hc := hT.counts d x hx h0
      rw [((hT.each d x hx).dir hxk).1] at hc
      have hpos : 0 < cntM T d := by omega
      have : ∃ q ∈ T, 0 < cn d q.2 := by
        unfold cntM at hpos
        cases hall : T.all (fun q => cn d q.2 == 0) with
        | false =>
          rw [List.all_eq_false] at hall
          obtain ⟨q, hq, h1⟩ := hall
          exact ⟨q, hq, by simp at h1; omega⟩
        | true =>
          rw [List.all_eq_true] at hall
          have hz : (T.map fun q => cn d q.2).sum = 0 := by
            have : ∀ l : TrM, (∀ q ∈ l, cn d q.2 = 0) → (l.map fun q => cn d q.2).sum = 0 := by
              intro l
              induction l with
              | nil => intro _; rfl
              | cons y r ih =>
                intro hh
                rw [List.map_cons, List.sum_cons, hh y (by simp), ih fun q hq => hh q (by simp [hq])]
            exact this T fun q hq => by simpa using hall q hq
          omega
      obtain ⟨q, hq, hcq⟩ := this
      unfold cn at hcq
      rw [List.countP_pos_iff] at hcq
      obtain ⟨e, he, hed⟩ := hcq
      simp only [decide_eq_true_eq] at hed
      have hgq := aget_of_mem iltLaws hT.sorted hq
      have hup := (hd.up q.1 q.2 hgq e he).2 (by rw [hed]; exact hk)
      rw [hed] at hup
      match n, hn with
      | 0, hn => omega
      | n + 1, hn =>
        obtain ⟨p, hp⟩ := dir_reach hT hd n q.1 (by omega) ((kindM_of hgq).trans (names_dir hT hgq he))
        refine ⟨p ++ [e.1], ?_⟩
        rw [lookM_append, hp, if_pos rfl]
        unfold lookM
        rw [hgq]
        simp only
        rw [if_pos (names_dir hT hgq he), aget_of_mem bbLt (hT.each _ _ hgq).sorted he]
        simp only
        rw [hed]
        rfl
open Classical in
noncomputable def pth (T : TrM) (d : Int) : List Nm := if h : ∃ q, lookM T 0 q = (d, 0) then h.choose else []
theorem pth_look {T : TrM} {d : Int} (h : ∃ q, lookM T 0 q = (d, 0)) : lookM T 0 (pth T d) = (d, 0) := by
  unfold pth
  rw [dif_pos h]
  exact h.choose_spec
noncomputable def byDir (T : TrM) (id : Int) : List (List Nm) := T.flatMap fun d => (d.2.names.filter fun e => decide (e.2 = id)).map fun e => pth T d.1 ++ [e.1]
theorem byDir_len (T : TrM) (id : Int) : (byDir T id).length = cntM T id := by
  unfold byDir cntM
  rw [List.length_flatMap]
  congr 1
  apply List.map_congr_left
  intro q _
  rw [List.length_map, cn, List.countP_eq_length_filter]
theorem nodup_perm {α : Type} [DecidableEq α] : ∀ {l m : List α}, l.Nodup → m.Nodup → (∀ a, a ∈ l ↔ a ∈ m) → l.Perm m
  | [], m, _, _, h => by
    have : m = [] := List.eq_nil_iff_forall_not_mem.2 fun a ha => by have := (h a).2 ha; cases this
    rw [this]
  | x :: r, m, hl, hm, h => by
    have hx : x ∈ m := (h x).1 (by simp)
    obtain ⟨h1, h2⟩ := List.nodup_cons.1 hl
    have hp := List.perm_cons_erase hx
    refine List.Perm.trans (List.Perm.cons x (nodup_perm h2 (hm.erase x) fun a => ?_)) hp.symm
    rw [hm.mem_erase_iff]
    constructor
    · intro ha
      exact ⟨fun e => h1 (e ▸ ha), (h a).1 (by simp [ha])⟩
    · rintro ⟨hne, ha⟩
      rcases List.mem_cons.1 ((h a).2 ha) with h3 | h3
      · exact absurd h3 hne
      · exact h3
/-- As many paths as names. -/
theorem paths_count {T : TrM} (hO : Okay T) {id : Int} (h0 : id ≠ 0) : (pathsM T id 8 0 []).length = cntM T id := by
  obtain ⟨hT, dep, hd⟩ := hO
  have hS : Shal T 8 0 := hd.shal8 hT 0
  have hreach : ∀ d x, aget d T = some x → ∀ e ∈ x.names, lookM T 0 (pth T d) = (d, 0) := fun d x hx e he => pth_look (dir_reach hT hd (dep d) d (Nat.le_refl _) ((kindM_of hx).trans (names_dir hT hx he)))
  rw [← byDir_len]
  refine (nodup_perm (paths_nodup hT 8 0 []) ?_ fun q => ?_).length_eq
  · unfold byDir List.Nodup
    rw [List.pairwise_flatMap]
    refine ⟨fun d hdm => ?_, ?_⟩
    · rw [List.pairwise_map]
      have hs := (hT.each _ _ (aget_of_mem iltLaws hT.sorted hdm)).sorted.apart bbLt
      refine (List.Pairwise.filter _ hs).imp fun {e e'} hne he => hne ?_
      have := List.append_cancel_left he
      simpa using this
    · refine (hT.sorted.apart iltLaws).imp_of_mem fun {d d'} hdm hdm' hne q hq q' hq' he => ?_
      obtain ⟨e, he1, rfl⟩ := List.mem_map.1 hq
      obtain ⟨e', he2, rfl⟩ := List.mem_map.1 hq'
      have hl := congrArg List.dropLast he
      rw [List.dropLast_concat, List.dropLast_concat] at hl
      have h1 := hreach d.1 d.2 (aget_of_mem iltLaws hT.sorted hdm) e (List.mem_filter.1 he1).1
      have h2 := hreach d'.1 d'.2 (aget_of_mem iltLaws hT.sorted hdm') e' (List.mem_filter.1 he2).1
      rw [hl, h2] at h1
      exact hne (congrArg Prod.fst h1).symm
  · rw [mem_paths hT 8 0 [] q (root_there hT) hS]
    unfold byDir
    rw [List.mem_flatMap]
    constructor
    · rintro ⟨s, hqs, hl⟩
      rw [List.nil_append] at hqs
      rw [← hqs] at hl
      clear hqs
      have hs : q ≠ [] := fun e => by
        rw [e] at hl
        exact h0 (congrArg Prod.fst hl).symm
      obtain ⟨d, x, n, -, hl1, hx, hxk, hn, _, e1⟩ := place_of_look hl hs
      have hmem := aget_mem hn
      have h2 := one_path hT q.dropLast.length q.dropLast (pth T d) d (Nat.le_refl _) hl1 (hreach d x hx _ hmem) ((kindM_of hx).trans hxk)
      refine ⟨(d, x), aget_mem hx, List.mem_map.2 ⟨(n, id), List.mem_filter.2 ⟨hmem, by simp⟩, ?_⟩⟩
      rw [e1, h2]
    · rintro ⟨d, hdm, hq⟩
      obtain ⟨e, he, rfl⟩ := List.mem_map.1 hq
      obtain ⟨hen, hei⟩ := List.mem_filter.1 he
      simp only [decide_eq_true_eq] at hei
      have hx := aget_of_mem iltLaws hT.sorted hdm
      refine ⟨pth T d.1 ++ [e.1], rfl, ?_⟩
      rw [lookM_append, hreach d.1 d.2 hx e hen, if_pos rfl]
      unfold lookM
      rw [hx]
      simp only
      rw [if_pos (names_dir hT hx hen), aget_of_mem bbLt (hT.each _ _ hx).sorted hen]
      simp only
      rw [hei]
      rfl
end Go.Proofs.YtbapdoicejakhaaGreat
namespace Go.Proofs.YtbapdoicejakhaaGreat
open Go.ChangeShapes Go.WideShapes Go.ChangeAt Go.RowKit
set_option linter.unusedVariables false
set_option linter.unusedSimpArgs false

/-- All names of a node. -/
def allP (T : TrM) (id : Int) : List (List Nm) := pathsM T id 8 0 []
theorem mem_allP {T : TrM} (hO : Okay T) {id : Int} {q : List Nm} : q ∈ allP T id ↔ lookM T 0 q = (id, 0) := by
  obtain ⟨hT, dep, hd⟩ := hO
  unfold allP
  rw [mem_paths hT 8 0 [] q (root_there hT) (hd.shal8 hT 0)]
  constructor
  · rintro ⟨s, h1, h2⟩
    rw [List.nil_append] at h1
    rw [h1]
    exact h2
  · exact fun h => ⟨q, rfl, h⟩
/-- A path that leads somewhere is no longer than it may be, and its names are good. -/
theorem look_good {T : TrM} {dep : Int → Nat} (hT : OkM T) (hd : DepthOk T dep) : ∀ (q : List Nm) (a id : Int), lookM T a q = (id, 0) → (∀ n ∈ q, goodL n = true) ∧ (q ≠ [] → dep a + q.length ≤ 8)
  | [], a, id, h => ⟨fun n hn => by simp at hn, fun h => absurd rfl h⟩
  | m :: r, a, id, h => by
    obtain ⟨x, k, hx, hk, hn, hr⟩ := look_cons h
    have hm := aget_mem hn
    have hu := hd.up a x hx _ hm
    obtain ⟨h1, h2⟩ := look_good hT hd r k id hr
    refine ⟨fun n hn' => ?_, fun _ => ?_⟩
    · rcases List.mem_cons.1 hn' with rfl | h3
      · exact (hT.each a x hx).good _ hm
      · exact h1 n h3
    · cases r with
      | nil => simp only [List.length_cons, List.length_nil]; omega
      | cons m' r' =>
        have h3 := h2 (by simp)
        obtain ⟨y, k', hy, hk', _, _⟩ := look_cons hr
        have := hu.2 ((kindM_of hy).trans hk')
        simp only at this
        simp only [List.length_cons] at h3 ⊢
        omega
theorem look_fine {T : TrM} (hO : Okay T) {q : List Nm} {id : Int} (h : lookM T 0 q = (id, 0)) : q.length ≤ 8 ∧ (∀ n ∈ q, goodL n = true) ∧ fineL q = 0 ∧ lookE T q = (id, 0) := by
  obtain ⟨hT, dep, hd⟩ := hO
  obtain ⟨h1, h2⟩ := look_good hT hd q 0 id h
  have hl : q.length ≤ 8 := by
    by_cases hq : q = []
    · rw [hq]; decide
    · have := h2 hq; omega
  have hf : fineL q = 0 := by
    unfold fineL
    have ha : q.any (fun x => !goodL x) = false := by
      rw [List.any_eq_false]
      intro x hx
      rw [h1 x hx]
      decide
    rw [ha]
    simp only [Bool.false_eq_true, if_false]
    rw [if_neg (by omega)]
  refine ⟨hl, h1, hf, ?_⟩
  unfold lookE
  rw [if_neg (by simp [hf])]
  exact h
theorem look_root {T : TrM} (hT : OkM T) : ∀ (q : List Nm) (a : Int), lookM T a q = (0, 0) → q ≠ [] → False
  | [], a, h, hq => hq rfl
  | m :: r, a, h, _ => by
    obtain ⟨x, k, hx, hk, hn, hr⟩ := look_cons h
    have hl := hT.leads a x hx _ (aget_mem hn)
    cases r with
    | nil =>
      have : k = 0 := congrArg Prod.fst hr
      exact hl.2 this
    | cons m' r' => exact look_root hT _ k hr (by simp)
theorem allP_root {T : TrM} (hO : Okay T) : allP T 0 = [[]] := by
  have hnd : (allP T 0).Nodup := paths_nodup hO.1 8 0 []
  have h0 : ([] : List Nm) ∈ allP T 0 := (mem_allP hO).2 rfl
  have hall : ∀ q ∈ allP T 0, q = [] := fun q hq => by
    by_cases hq0 : q = []
    · exact hq0
    · exact (look_root hO.1 q 0 ((mem_allP hO).1 hq) hq0).elim
  generalize allP T 0 = l at hnd h0 hall
  match l, hnd, h0, hall with
  | [q], _, _, hall => rw [hall q (by simp)]
  | q :: q' :: r, hnd, _, hall =>
    have h1 := hall q (by simp)
    have h2 := hall q' (by simp)
    rw [h1, h2] at hnd
    simp at hnd
theorem allP_len {T : TrM} (hO : Okay T) {id : Int} {x : ItM} (hx : aget id T = some x) : ((allP T id).length : Int) = if id = 0 then 1 else x.links := by
  by_cases h0 : id = 0
  · rw [if_pos h0, h0, allP_root hO]; rfl
  · rw [if_neg h0, ← hO.1.counts id x hx h0]
    unfold allP
    rw [paths_count hO h0]
theorem allP_links {T : TrM} (hO : Okay T) {id : Int} {x : ItM} (hx : aget id T = some x) : ((allP T id).length : Int) = x.links := by
  rw [allP_len hO hx]
  by_cases h0 : id = 0
  · rw [if_pos h0]
    have hr := hO.1.root
    rw [← h0, kindM_of hx] at hr
    rw [((hO.1.each id x hx).dir hr).1]
  · rw [if_neg h0]
theorem allP_none {T : TrM} (hO : Okay T) {id : Int} (hx : aget id T = none) : allP T id = [] := by
  rw [List.eq_nil_iff_forall_not_mem]
  intro q hq
  have hl := (mem_allP hO).1 hq
  have := lookM_there hO.1 q 0 (root_there hO.1) (by rw [hl])
  rw [hl, hx] at this
  cases this
theorem allP_le {T : TrM} (hO : Okay T) (id : Int) : (allP T id).length ≤ 64 := by
  cases hx : aget id T with
  | none => rw [allP_none hO hx]; simp
  | some x =>
    have h1 := allP_links hO hx
    have h2 := (hO.1.each id x hx).links
    omega
end Go.Proofs.YtbapdoicejakhaaGreat
namespace Go.Proofs.YtbapdoicejakhaaGreat
set_option linter.unusedVariables false

def below_ (T : TrM) (k : Nat) : Nat := T.countP fun q => decide (q.1 < (k : Int))
theorem below_le (T : TrM) (k : Nat) : below_ T k ≤ T.length := List.countP_le_length
theorem below_step_none {T : TrM} {k : Nat} (hn : ∀ q ∈ T, q.1 ≠ (k : Int)) : below_ T (k + 1) = below_ T k := by
  unfold below_
  apply List.countP_congr
  intro q hq
  have := hn q hq
  simp only [decide_eq_true_eq]
  omega
theorem below_step_some : ∀ {T : TrM} {k : Nat}, T.Pairwise (fun p q => p.1 ≠ q.1) → (∃ q ∈ T, q.1 = (k : Int)) → below_ T (k + 1) = below_ T k + 1
  | [], k, _, h => by obtain ⟨q, hq, _⟩ := h; cases hq
  | y :: r, k, hp, h => by
    obtain ⟨h1, h2⟩ := List.pairwise_cons.1 hp
    by_cases hy : y.1 = (k : Int)
    · have h3 := below_step_none (T := r) (k := k) fun q hq he => h1 q hq (by rw [he]; exact hy)
      unfold below_ at h3 ⊢
      rw [List.countP_cons, List.countP_cons, h3, if_pos (by simp; omega), if_neg (by simp; omega)]
    · obtain ⟨q, hq, he⟩ := h
      rcases List.mem_cons.1 hq with h3 | h3
      · subst h3; exact absurd he hy
      · have h4 := below_step_some h2 ⟨q, h3, he⟩
        unfold below_ at h4 ⊢
        rw [List.countP_cons, List.countP_cons, h4]
        by_cases h5 : y.1 < (k : Int)
        · rw [if_pos (by simp; omega), if_pos (by simpa using h5)]
        · rw [if_neg (by simp; omega), if_neg (by simpa using h5)]
theorem below_zero {T : TrM} (hT : OkM T) : below_ T 0 = 0 := by
  unfold below_
  rw [List.countP_eq_zero]
  intro q hq
  have := (hT.ids q.1 q.2 (aget_of_mem iltLaws hT.sorted hq)).1
  simp only [decide_eq_true_eq]
  omega
theorem below_all {T : TrM} (hT : OkM T) : below_ T 65536 = T.length := by
  unfold below_
  rw [List.countP_eq_length]
  intro q hq
  have := (hT.ids q.1 q.2 (aget_of_mem iltLaws hT.sorted hq)).2
  simp only [decide_eq_true_eq]
  omega
theorem below_at {T : TrM} (hT : OkM T) (k : Nat) : below_ T (k + 1) = below_ T k + if (aget (k : Int) T).isSome then 1 else 0 := by
  cases hx : aget (k : Int) T with
  | none =>
    simp only [Option.isSome_none, Bool.false_eq_true, if_false, Nat.add_zero]
    exact below_step_none fun q hq he => by
      have := aget_of_mem iltLaws hT.sorted hq
      rw [he, hx] at this
      cases this
  | some x =>
    simp only [Option.isSome_some, if_true]
    exact below_step_some (hT.sorted.apart iltLaws) ⟨_, aget_mem hx, rfl⟩
end Go.Proofs.YtbapdoicejakhaaGreat
namespace Go.Proofs.YtbapdoicejakhaaGreat
open Go.ChangeShapes Go.WideShapes Go.ChangeAt Go.RowKit
set_option linter.unusedVariables false
set_option linter.unusedSimpArgs false

/-- The names that are done. -/
def doneN (left : Nm → Bool) (l : List (Nm × Int)) : List (Nm × Int) := l.filter fun e => !left e.1
theorem doneN_step {left : Nm → Bool} {k : Nm} {j : Int} : ∀ {l : List (Nm × Int)}, l.Pairwise (fun e e' => e.1 ≠ e'.1) → (k, j) ∈ l → left k = true → (doneN (fun z => left z && !decide (z = k)) l).Perm (doneN left l ++ [(k, j)])
  | [], _, h, _ => by cases h
  | y :: r, hp, h, hl => by
    obtain ⟨h1, h2⟩ := List.pairwise_cons.1 hp
    unfold doneN
    rw [List.filter_cons, List.filter_cons]
    rcases List.mem_cons.1 h with h3 | h3
    · subst h3
      have hr : r.filter (fun e => !(left e.1 && !decide (e.1 = k))) = r.filter fun e => !left e.1 := by
        apply List.filter_congr
        intro e he
        have hne : e.1 ≠ k := fun hh => h1 e he hh.symm
        simp [hne]
      rw [hr]
      simp only [decide_true, Bool.not_true, Bool.and_false, Bool.not_false, if_true, hl]
      rw [if_neg (by decide)]
      exact (List.perm_append_singleton _ _).symm
    · have hne : y.1 ≠ k := h1 (k, j) h3
      have ih := doneN_step h2 h3 hl
      unfold doneN at ih
      have e1 : (!(left y.1 && !decide (y.1 = k))) = !left y.1 := by simp [hne]
      rw [e1]
      cases left y.1 with
      | true => simpa using ih
      | false => simpa using ih
theorem doneN_none {left : Nm → Bool} {l : List (Nm × Int)} (h : ∀ e ∈ l, left e.1 = true) : doneN left l = [] := by
  unfold doneN
  rw [List.filter_eq_nil_iff]
  intro e he
  simp [h e he]
theorem doneN_all {left : Nm → Bool} {l : List (Nm × Int)} (h : ∀ k, left k = false) : doneN left l = l := by
  unfold doneN
  rw [List.filter_eq_self]
  intro e _
  simp [h e.1]
end Go.Proofs.YtbapdoicejakhaaGreat
namespace Go.Proofs.YtbapdoicejakhaaGreat
open Go.ChangeShapes Go.WideShapes Go.ChangeAt Go.RowKit
set_option linter.unusedVariables false

def CloneO (w : World) (n : Nat) (ss : List ByteArray) (e : Ending) (w' : World) : Prop := ∃ v, e = .returned v ∧ w'.ownsRow w.heap.size 9 1 v n (ss.map .string) ∧ Below w.heap.size w w'
theorem cloneO_any {S : Nat → Prop} (a : Option Addr) (len cap : Nat) (ss : List ByteArray) (w : World) (h : StrsAt S w a len ss) (hsz : len ≤ 1000000) :
    Calls Tryz.prog 134 #[.slice a len cap] w (CloneO w len ss) := by
  have hl := h.length
  cases a with
  | none =>
    have h0 : len = 0 := by
      rcases Nat.eq_zero_or_pos len with h0 | h0
      · exact h0
      · obtain ⟨_, _, e, _⟩ := h.row.at_ h0
        cases e
    subst h0
    obtain rfl : ss = [] := by simpa using hl
    refine (Tryz.slices_Clone_string_nil 0 cap w).mono ?_
    rintro e w' ⟨rfl, rfl⟩
    exact ⟨_, rfl, ⟨rfl, .inl ⟨rfl, rfl⟩⟩, Below.refl _ _⟩
  | some ad =>
    by_cases h0 : len = 0
    · subst h0
      obtain rfl : ss = [] := by simpa using hl
      refine (Tryz.slices_Clone_string_zero ad cap w).mono ?_
      rintro e w' ⟨v, rfl, ho, hv, hb⟩
      exact ⟨v, rfl, ho, hb⟩
    · obtain ⟨b, off, e, _, _, _⟩ := h.row.at_ (by omega)
      simp only [Option.some.injEq] at e
      subst e
      refine (Tryz.slices_Clone_string b off len cap ss w (by omega) (by omega) (fun j hj => strs_getD h j hj)).mono ?_
      rintro e w' ⟨v, rfl, ho, hv, hb⟩
      rw [List.take_of_length_le (by omega)] at ho
      exact ⟨v, rfl, ho, hb⟩
end Go.Proofs.YtbapdoicejakhaaGreat
namespace Go.Proofs.YtbapdoicejakhaaGreat
open Go.ChangeShapes Go.WideShapes Go.ChangeAt Go.RowKit
set_option linter.unusedVariables false
set_option linter.unusedSimpArgs false

/-- A path as a value. -/
def PathV (S : Nat → Prop) (w : World) (u : Value) (q : List Nm) : Prop := ∃ a c, u = .slice a q.length c ∧ q.length ≤ c ∧ StrsAt S w a q.length (q.map strOf)
def PathVs (S : Nat → Prop) (w : World) (vals : List Value) (l : List (List Nm)) : Prop := vals.length = l.length ∧ ∀ (i : Nat) (q : List Nm), l[i]? = some q → ∃ u, vals[i]? = some u ∧ PathV S w u q
theorem PathV.move {S S' : Nat → Prop} {w w' : World} {u : Value} {q : List Nm} (h : PathV S w u q) (hs : w.heap.size ≤ w'.heap.size) (hk : ∀ b, S b → b < w.heap.size → S' b ∧ w'.heap[b]? = w.heap[b]?) : PathV S' w' u q := by
  obtain ⟨a, c, h1, h2, h3⟩ := h
  exact ⟨a, c, h1, h2, h3.row.move hs hk, h3.short⟩
theorem PathVs.move {S S' : Nat → Prop} {w w' : World} {vals : List Value} {l : List (List Nm)} (h : PathVs S w vals l) (hs : w.heap.size ≤ w'.heap.size) (hk : ∀ b, S b → b < w.heap.size → S' b ∧ w'.heap[b]? = w.heap[b]?) : PathVs S' w' vals l :=
  ⟨h.1, fun i q hq => by
    obtain ⟨u, h1, h2⟩ := h.2 i q hq
    exact ⟨u, h1, h2.move hs hk⟩⟩
theorem PathVs.append {S : Nat → Prop} {w : World} {v1 v2 : List Value} {l1 l2 : List (List Nm)} (h : PathVs S w v1 l1) (k : PathVs S w v2 l2) : PathVs S w (v1 ++ v2) (l1 ++ l2) := by
  refine ⟨by rw [List.length_append, List.length_append, h.1, k.1], fun i q hq => ?_⟩
  by_cases hi : i < l1.length
  · rw [List.getElem?_append_left hi] at hq
    rw [List.getElem?_append_left (by rw [h.1]; exact hi)]
    exact h.2 i q hq
  · rw [List.getElem?_append_right (by omega)] at hq
    rw [List.getElem?_append_right (by rw [h.1]; omega), h.1]
    exact k.2 _ q hq
/-- out, and these in some order behind it. -/
def NamesRel (B : Nat) (w : World) (v : Value) (m : Nat) (xs : List Value) (L : List (List Nm)) (v' : Value) (w' : World) : Prop :=
  ∃ vals l, l.Perm L ∧ w'.ownsRow B 36 1 v' (m + l.length) (xs ++ vals) ∧ PathVs (fun b => w.heap.size ≤ b ∧ b < w'.heap.size ∧ v'.ownBlock ≠ some b) w' vals l ∧ Keeps (fun b => v.ownBlock = some b) w w' ∧ ∀ b, v'.ownBlock = some b → v.ownBlock = some b ∨ w.heap.size ≤ b
theorem NamesRel.refl {B : Nat} {w : World} {v : Value} {m : Nat} {xs : List Value} (h : w.ownsRow B 36 1 v m xs) : NamesRel B w v m xs [] v w :=
  ⟨[], [], List.Perm.refl _, by simpa using h, ⟨rfl, fun i q hq => by simp at hq⟩, Keeps.refl _ _, fun b hb => .inl hb⟩
/-- One behind another. -/
theorem NamesRel.trans {B : Nat} {w w1 w2 : World} {v v1 v2 : Value} {m : Nat} {xs : List Value} {L1 L2 : List (List Nm)} (h : NamesRel B w v m xs L1 v1 w1) (k : ∀ m1 xs1, w1.ownsRow B 36 1 v1 m1 xs1 → NamesRel B w1 v1 m1 xs1 L2 v2 w2) : NamesRel B w v m xs (L1 ++ L2) v2 w2 := by
  obtain ⟨vals, l, hp, ho, hv, hK, hb⟩ := h
  obtain ⟨vals2, l2, hp2, ho2, hv2, hK2, hb2⟩ := k _ _ ho
  have hs1 := hK.size
  have hs2 := hK2.size
  refine ⟨vals ++ vals2, l ++ l2, hp.append hp2, by rw [List.length_append, ← Nat.add_assoc, ← List.append_assoc]; exact ho2, ?_, hK.trans hK2 fun x hx hx1 => ?_, fun b hb' => ?_⟩
  · refine (hv.move (by omega) fun b hS hbw => ⟨⟨hS.1, by omega, fun he => ?_⟩, hK2.block b hbw fun he => hS.2.2 he⟩).append (hv2.move (Nat.le_refl _) fun b hS hbw => ⟨⟨by omega, hS.2.1, hS.2.2⟩, rfl⟩)
    rcases hb2 b he with h1 | h1
    · exact hS.2.2 h1
    · omega
  · rcases hb x hx1 with h1 | h1
    · exact h1
    · omega
  · rcases hb2 b hb' with h1 | h1
    · exact hb b h1
    · exact .inr (by omega)
/-- Another order. -/
theorem NamesRel.perm {B : Nat} {w w' : World} {v v' : Value} {m : Nat} {xs : List Value} {L L' : List (List Nm)} (h : NamesRel B w v m xs L v' w') (hp : L.Perm L') : NamesRel B w v m xs L' v' w' := by
  obtain ⟨vals, l, h1, h2⟩ := h
  exact ⟨vals, l, h1.trans hp, h2⟩
end Go.Proofs.YtbapdoicejakhaaGreat
namespace Go.Proofs.YtbapdoicejakhaaGreat
open Go.ChangeShapes Go.WideShapes Go.ChangeAt Go.RowKit
set_option linter.unusedVariables false
set_option linter.unusedSimpArgs false

def bmk (l : List UInt8) : ByteArray := ⟨l.toArray⟩
theorem bmk_data (l : List UInt8) : (bmk l).data.toList = l := rfl
theorem bmk_size (l : List UInt8) : (bmk l).size = l.length := by simp [bmk, ByteArray.size]
theorem retJ_str {a b : ByteArray} (h : a = b) : Ending.returned (.string a) = .returned (.string b) := by rw [h]
theorem joinLib_any {S : Nat → Prop} (a : Option Addr) (len cap : Nat) (ss : List ByteArray) (w : World) (h : StrsAt S w a len ss) (hcap : len ≤ cap)
    (hlen : (Lib.join (bls ss) [47]).length ≤ 140737488355328) (hn : len ≤ 140737488355328) :
    Calls Tryz.prog 138 #[.slice a len cap, .string ⟨#[47]⟩] w fun e w' => e = .returned (.string (bmk (Lib.join (bls ss) [47]))) ∧ Below w.heap.size w w' := by
  have hl := h.length
  by_cases h0 : len = 0
  · subst h0
    obtain rfl : ss = [] := by simpa using hl
    refine (Tryz.strings_Join_none a cap ⟨#[47]⟩ w).mono ?_
    rintro e w' ⟨rfl, rfl⟩
    exact ⟨rfl, Below.refl _ _⟩
  · obtain ⟨b, off, rfl, _, hbw, _⟩ := h.row.at_ (by omega)
    subst hl
    refine (Tryz.strings_Join b off cap ss ⟨#[47]⟩ w (fun j x hx => ?_) hbw hn hcap hlen).mono ?_
    · have hj := (List.getElem?_eq_some_iff.1 hx).1
      rw [strs_getD h j hj]
      simp [List.getD, hx]
    · rintro e w' ⟨rfl, hb⟩
      exact ⟨rfl, hb⟩
theorem join_any {S : Nat → Prop} (a : Option Addr) (len cap : Nat) (ss : List ByteArray) (w : World) (h : StrsAt S w a len ss) (hcap : len ≤ cap)
    (hlen : (Lib.join (bls ss) [47]).length ≤ 140737488355327) (hn : len ≤ 140737488355328) :
    Calls Tryz.prog 101 #[.slice a len cap] w fun e w' => e = .returned (.string (bmk (pathJoin (bls ss)))) ∧ Below w.heap.size w w' := by
  have hsz : (bmk (Lib.join (bls ss) [47])).size ≤ 140737488355327 := by rw [bmk_size]; exact hlen
  go_enter Tryz.func101, Tryz.ntmps101
  go_wp2_with fail
  refine (joinLib_any _ _ _ ss _ h hcap (by omega) hn).mono ?_
  rintro e w1 ⟨rfl, hb⟩
  go_wp2_with fail
  go_ret
  refine ⟨retJ_str (WideShapes.bytes_inj ?_), hb⟩
  simp [bmk_data, pathJoin]
/-- A path that is small. -/
def Small (q : List Nm) : Prop := q.length ≤ 64 ∧ ∀ n ∈ q, n.length ≤ 16
theorem lens_small : ∀ (q : List Nm), (∀ n ∈ q, n.length ≤ 16) → Lib.lens q ≤ 16 * q.length
  | [], _ => by simp [Lib.lens]
  | x :: r, h => by
    have h1 := h x (by simp)
    have h2 := lens_small r fun n hn => h n (by simp [hn])
    simp only [Lib.lens, List.map_cons, List.sum_cons, List.length_cons] at h2 ⊢
    omega
theorem join_small {q : List Nm} (h : Small q) : (Lib.join q [47]).length ≤ 2000 := by
  cases q with
  | nil => simp [Lib.join_nil]
  | cons x r =>
    have h1 := lens_small _ h.2
    have h2 := h.1
    rw [Lib.join_length]
    simp only [List.length_cons, List.length_nil] at h1 h2 ⊢
    omega
theorem joinV_any {S : Nat → Prop} {w : World} {u : Value} {q : List Nm} (h : PathV S w u q) (hq : Small q) : Calls Tryz.prog 101 #[u] w fun e w' => e = .returned (.string (bmk (pathJoin q))) ∧ Below w.heap.size w w' := by
  obtain ⟨a, c, rfl, hc, hs⟩ := h
  have hj := join_small hq
  have hl := hq.1
  have := join_any a q.length c (q.map strOf) w hs hc (by rw [bls_strOf]; omega) (by omega)
  rw [bls_strOf] at this
  exact this
/-- The closure that Names sorts by. -/
theorem nameCmp_any {S1 S2 : Nat → Prop} {w : World} {u1 u2 : Value} {q1 q2 : List Nm} (h1 : PathV S1 w u1 q1) (h2 : PathV S2 w u2 q2) (hq1 : Small q1) (hq2 : Small q2) :
    Calls Tryz.prog 99 #[u1, u2] w fun e w' => e = .returned (.int .i64 (Lib.compareBytes (pathJoin q1) (pathJoin q2))) ∧ Below w.heap.size w w' := by
  have HJ1 := Lib.hid (joinV_any h1 hq1)
  have HJ2 : Hid (∀ w', Below w.heap.size w w' → Calls Tryz.prog 101 #[u2] w' fun e w'' => e = .returned (.string (bmk (pathJoin q2))) ∧ Below w'.heap.size w' w'') := fun w' hb => joinV_any (h2.move (S' := fun _ => True) hb.size fun b hb' hbw => ⟨trivial, hb.block b hbw⟩) hq2
  have HC := Tryz.strings_Compare (bmk (pathJoin q1)) (bmk (pathJoin q2))
  rw [bmk_data, bmk_data] at HC
  obtain ⟨J1, hj1⟩ : ∃ J1, J1 = bmk (pathJoin q1) := ⟨_, rfl⟩
  obtain ⟨J2, hj2⟩ : ∃ J2, J2 = bmk (pathJoin q2) := ⟨_, rfl⟩
  obtain ⟨z, hz⟩ : ∃ z, z = Lib.compareBytes (pathJoin q1) (pathJoin q2) := ⟨_, rfl⟩
  rw [← hj1] at HJ1 HC
  rw [← hj2] at HJ2 HC
  rw [← hz] at HC ⊢
  have HCC := Lib.hid HC
  clear hj1 hj2 hz HC h1 h2
  go_enter Tryz.func99, Tryz.ntmps99
  go_wp2_with fail
  (with_reducible refine HJ1.out.mono ?_)
  rintro e w1 ⟨rfl, hb1⟩
  have HB1 := Lib.hid hb1
  clear hb1
  go_wp2_with fail
  (with_reducible refine (HJ2.out w1 HB1.out).mono ?_)
  rintro e w2 ⟨rfl, hb2⟩
  have HB2 := Lib.hid (HB1.out.trans (hb2.mono HB1.out.size))
  clear hb2
  go_wp2_with fail
  (with_reducible refine (HCC.out _).mono ?_)
  rintro e w3 ⟨rfl, rfl⟩
  go_wp2_with fail
  go_ret
  exact ⟨rfl, HB2.out⟩
end Go.Proofs.YtbapdoicejakhaaGreat
