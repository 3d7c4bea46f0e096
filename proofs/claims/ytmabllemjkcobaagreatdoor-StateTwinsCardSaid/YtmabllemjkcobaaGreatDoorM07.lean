/- What holds of each tree holds of it behind each call: counts, and the parts of it. -/
import Derived.Test.YtmabllemjkcobaaGreatDoorM06
namespace Go.Proofs.YtmabllemjkcobaaGreatDoor
open Go.ChangeShapes Go.WideShapes Go.ChangeAt Go.RowKit
set_option linter.unusedVariables false
set_option linter.unusedSimpArgs false

theorem iltLaws : LtLaws ilt := intLt
theorem cntM_amod {T : TrM} (hs : ASorted ilt T) {d : Int} {x : ItM} (f : ItM → ItM) (hx : aget d T = some x) (k : Int) : cntM (amod d f T) k + cn k x = cntM T k + cn k (f x) := by
  induction T with
  | nil => cases hx
  | cons y r ih =>
    have hp := hs.apart iltLaws
    obtain ⟨h1, h2⟩ := List.pairwise_cons.1 hp
    rw [aget_cons] at hx
    by_cases hy : y.1 = d
    · rw [if_pos hy] at hx
      cases hx
      have hr : amod d f r = r := by
        unfold amod
        conv => rhs; rw [← List.map_id r]
        apply List.map_congr_left
        intro q hq
        have := h1 q hq
        rw [if_neg (fun e => this (hy.trans e.symm))]
        rfl
      have e : amod d f (y :: r) = (y.1, f y.2) :: r := by
        have : amod d f (y :: r) = (if y.1 = d then (y.1, f y.2) else y) :: amod d f r := rfl
        rw [this, hr, if_pos hy]
      rw [e]
      simp [cntM]
      omega
    · rw [if_neg hy] at hx
      have := ih (List.pairwise_cons.1 hs).2 hx
      have e : amod d f (y :: r) = y :: amod d f r := by
        have : amod d f (y :: r) = (if y.1 = d then (y.1, f y.2) else y) :: amod d f r := rfl
        rw [this, if_neg hy]
      rw [e]
      simp [cntM] at this ⊢
      omega
theorem cntM_ains (x : Int × ItM) : ∀ (T : TrM) (k : Int), cntM (ains ilt x T) k = cntM T k + cn k x.2
  | [], k => by simp [ains, cntM]
  | y :: r, k => by
    unfold ains
    split
    · simp [cntM]; omega
    · have := cntM_ains x r k
      simp [cntM] at this ⊢
      omega
theorem cntM_adel {T : TrM} (hs : ASorted ilt T) {d : Int} {x : ItM} (hx : aget d T = some x) (k : Int) : cntM (adel d T) k + cn k x = cntM T k := by
  induction T with
  | nil => cases hx
  | cons y r ih =>
    have hp := hs.apart iltLaws
    obtain ⟨h1, h2⟩ := List.pairwise_cons.1 hp
    rw [aget_cons] at hx
    by_cases hy : y.1 = d
    · rw [if_pos hy] at hx
      cases hx
      have hr : adel d r = r := by
        unfold adel
        rw [List.filter_eq_self]
        intro q hq
        have := h1 q hq
        simp only [Bool.not_eq_true', decide_eq_false_iff_not]
        exact fun e => this (hy.trans e.symm)
      have e : adel d (y :: r) = r := by
        have : adel d (y :: r) = if (!decide (y.1 = d)) = true then y :: adel d r else adel d r := by simp [adel, List.filter_cons]
        rw [this, hr]; simp [hy]
      rw [e]
      simp [cntM]
      omega
    · rw [if_neg hy] at hx
      have := ih (List.pairwise_cons.1 hs).2 hx
      have e : adel d (y :: r) = y :: adel d r := by
        have : adel d (y :: r) = if (!decide (y.1 = d)) = true then y :: adel d r else adel d r := by simp [adel, List.filter_cons]
        rw [this]; simp [hy]
      rw [e]
      simp [cntM] at this ⊢
      omega
theorem cn_le {T : TrM} {k j : Int} {x : ItM} (hx : aget j T = some x) : cn k x ≤ cntM T k := by
  have hm := aget_mem hx
  have : ∀ (l : TrM), (j, x) ∈ l → cn k x ≤ (l.map fun q => cn k q.2).sum := by
    intro l
    induction l with
    | nil => simp
    | cons y r ih =>
      intro h
      simp only [List.map_cons, List.sum_cons]
      rcases List.mem_cons.1 h with rfl | h
      · exact Nat.le_add_right _ _
      · have := ih h; omega
  exact this T hm
theorem cn_zero {T : TrM} {k : Int} (h : cntM T k = 0) {j : Int} {x : ItM} (hx : aget j T = some x) : ∀ e ∈ x.names, e.2 ≠ k := by
  have h1 : cn k x = 0 := by have := cn_le (k := k) hx; omega
  unfold cn at h1
  rw [List.countP_eq_zero] at h1
  intro e he
  have := h1 e he
  simpa using this
/-- One is turned. -/
theorem OkP.amod {T : TrM} (h : OkP T) {k : Int} {x : ItM} {f : ItM → ItM} (hx : aget k T = some x) (h1 : Ok1 (f x)) (hk : (f x).kind = x.kind) (hn : ∀ e ∈ (f x).names, (aget e.2 T).isSome = true ∧ e.2 ≠ 0) : OkP (Go.Proofs.YtmabllemjkcobaaGreatDoor.amod k f T) := by
  have hget : ∀ j y, aget j (Go.Proofs.YtmabllemjkcobaaGreatDoor.amod k f T) = some y → (j = k ∧ y = f x) ∨ (j ≠ k ∧ aget j T = some y) := fun j y hy => by
    rw [aget_amod] at hy
    by_cases hj : j = k
    · subst hj
      rw [if_pos rfl, hx] at hy
      simp only [Option.map_some, Option.some.injEq] at hy
      exact .inl ⟨rfl, hy.symm⟩
    · rw [if_neg hj] at hy; exact .inr ⟨hj, hy⟩
  have hsome : ∀ j, (aget j T).isSome = true → (aget j (Go.Proofs.YtmabllemjkcobaaGreatDoor.amod k f T)).isSome = true := fun j hj => by
    rw [aget_amod]; split <;> simp [hj]
  refine ⟨amod_sorted k f h.sorted, ?_, fun j y hy => ?_, fun j y hy e he => ?_, by rw [amod_length]; exact h.len, fun j y hy => ?_⟩
  · have hr := h.root
    unfold kindM at hr ⊢
    rw [aget_amod]
    by_cases h0 : (0 : Int) = k
    · subst h0
      rw [if_pos rfl, hx]
      rw [hx] at hr
      exact hk.trans hr
    · rw [if_neg h0]; exact hr
  · rcases hget j y hy with ⟨rfl, rfl⟩ | ⟨_, hy⟩
    · exact h1
    · exact h.each j y hy
  · rcases hget j y hy with ⟨rfl, rfl⟩ | ⟨_, hy⟩
    · exact ⟨hsome _ (hn e he).1, (hn e he).2⟩
    · exact ⟨hsome _ (h.leads j y hy e he).1, (h.leads j y hy e he).2⟩
  · rcases hget j y hy with ⟨rfl, rfl⟩ | ⟨_, hy⟩
    · exact h.ids j x hx
    · exact h.ids j y hy
theorem OkM.amod {T : TrM} (h : OkM T) {k : Int} {x : ItM} {f : ItM → ItM} (hx : aget k T = some x) (h1 : Ok1 (f x)) (hk : (f x).kind = x.kind) (hn : ∀ e ∈ (f x).names, (aget e.2 T).isSome = true ∧ e.2 ≠ 0)
    (hc : ∀ j y, aget j (Go.Proofs.YtmabllemjkcobaaGreatDoor.amod k f T) = some y → j ≠ 0 → (cntM (Go.Proofs.YtmabllemjkcobaaGreatDoor.amod k f T) j : Int) = y.links) : OkM (Go.Proofs.YtmabllemjkcobaaGreatDoor.amod k f T) := ⟨h.toOkP.amod hx h1 hk hn, hc⟩
/-- One is turned, its names and its Links are not. -/
theorem OkM.amod_same {T : TrM} (h : OkM T) {k : Int} {x : ItM} {f : ItM → ItM} (hx : aget k T = some x) (h1 : Ok1 (f x)) (hk : (f x).kind = x.kind) (hn : (f x).names = x.names) (hl : (f x).links = x.links) : OkM (Go.Proofs.YtmabllemjkcobaaGreatDoor.amod k f T) := by
  refine h.amod hx h1 hk (by rw [hn]; exact h.leads k x hx) fun j y hy hj => ?_
  have hcn : cn j (f x) = cn j x := by unfold cn; rw [hn]
  have := cntM_amod h.sorted f hx j
  rw [hcn] at this
  have e : cntM (Go.Proofs.YtmabllemjkcobaaGreatDoor.amod k f T) j = cntM T j := by omega
  rw [e]
  rw [aget_amod] at hy
  by_cases hjk : j = k
  · subst hjk
    rw [if_pos rfl, hx] at hy
    simp only [Option.map_some, Option.some.injEq] at hy
    rw [← hy, hl]
    exact h.counts j x hx hj
  · rw [if_neg hjk] at hy
    exact h.counts j y hy hj

theorem pigeon : ∀ (m : Nat) (T : TrM), ASorted ilt T → (∀ i : Nat, 1 ≤ i → i ≤ m → (aget (i : Int) T).isSome = true) → m ≤ T.length
  | 0, _, _, _ => Nat.zero_le _
  | m + 1, T, hs, h => by
    obtain ⟨x, hx⟩ := Option.isSome_iff_exists.1 (h (m + 1) (by omega) (by omega))
    have h1 := length_adel iltLaws hs hx
    have h2 := pigeon m (adel ((m + 1 : Nat) : Int) T) (hs.adel _) (fun i hi him => by
      rw [aget_adel, if_neg (by omega)]
      exact h i hi (by omega))
    omega
theorem freeM_spec {T : TrM} (hs : ASorted ilt T) : ∃ f : Nat, freeM T = f ∧ 1 ≤ f ∧ f ≤ T.length + 1 ∧ aget (f : Int) T = none ∧ ∀ i : Nat, 1 ≤ i → i < f → (aget (i : Int) T).isSome = true := by
  unfold freeM
  cases hf : (((List.range (T.length + 1)).map fun n : Nat => (n : Int) + 1).find? fun n => (aget n T).isNone) with
  | none =>
    exfalso
    have h1 := List.find?_eq_none.1 hf
    have := pigeon (T.length + 1) T hs (fun i hi him => by
      have := h1 (i : Int) (List.mem_map.2 ⟨i - 1, by simp; omega, by omega⟩)
      cases hq : aget (i : Int) T with
      | none => rw [hq] at this; simp at this
      | some v => rfl)
    omega
  | some n =>
    rw [List.find?_eq_some_iff_append] at hf
    obtain ⟨hn, xs, ys, hab, hpre⟩ := hf
    have hl : (xs ++ n :: ys).length = T.length + 1 := by rw [← hab]; simp
    have hidx : ∀ i (hi : i < xs.length + 1), (xs ++ n :: ys)[i]? = some ((i : Int) + 1) := fun i hi => by
      rw [← hab]
      simp only [List.length_append, List.length_cons] at hl
      simp [List.getElem?_range (show i < T.length + 1 by omega)]
    have hne : n = (xs.length : Int) + 1 := by
      have := hidx xs.length (by omega)
      simpa using this
    simp only [List.length_append, List.length_cons] at hl
    refine ⟨xs.length + 1, by simp [hne], by omega, by omega, ?_, fun i hi hif => ?_⟩
    · have : ((xs.length + 1 : Nat) : Int) = n := by omega
      rw [this]
      simpa using hn
    · have h2 := hidx (i - 1) (by omega)
      rw [List.getElem?_append_left (by omega)] at h2
      have h3 := hpre _ (List.mem_of_getElem? h2)
      have e : ((i - 1 : Nat) : Int) + 1 = i := by omega
      rw [e] at h3
      cases hq : aget (i : Int) T with
      | none => rw [hq] at h3; simp at h3
      | some v => rfl
theorem OkM.free {T : TrM} (h : OkM T) : ∃ f : Nat, freeM T = f ∧ 1 ≤ f ∧ f ≤ T.length + 1 ∧ aget (f : Int) T = none ∧ ∀ i : Nat, 1 ≤ i → i < f → (aget (i : Int) T).isSome = true := freeM_spec h.sorted
theorem length_aput {α : Type} {l : List (Int × α)} {k : Int} (v : α) (h : aget k l = none) : (aput ilt k v l).length = l.length + 1 := by
  unfold aput
  rw [length_ains, adel_none h]

/-- Entries that lead to few nodes, a few to each, are few. -/
theorem few_of {α : Type} (t : α → Int) (m : Nat) : ∀ (ks : List Int) (E : List α), (∀ e ∈ E, t e ∈ ks) → (∀ k ∈ ks, E.countP (fun e => decide (t e = k)) ≤ m) → E.length ≤ m * ks.length
  | [], E, h, _ => by
    cases E with
    | nil => simp
    | cons e r => have := h e (by simp); simp at this
  | k :: ks, E, h, hc => by
    have h1 := few_of t m ks (E.filter fun e => !decide (t e = k)) (fun e he => by
      obtain ⟨h1, h2⟩ := List.mem_filter.1 he
      rcases List.mem_cons.1 (h e h1) with h3 | h3
      · simp [h3] at h2
      · exact h3) (fun j hj => by
        rw [List.countP_filter]
        refine Nat.le_trans (List.countP_mono_left fun e _ he => ?_) (hc j (by simp [hj]))
        simp at he ⊢
        exact he.1)
    have h2 := hc k (by simp)
    have h3 : E.length = E.countP (fun e => decide (t e = k)) + (E.filter fun e => !decide (t e = k)).length := by
      rw [← List.countP_eq_length_filter]
      exact (List.length_eq_countP_add_countP (fun e => decide (t e = k))).trans (by
        have : List.countP (fun a => decide (¬decide (t a = k) = true)) E = List.countP (fun e => !decide (t e = k)) E := List.countP_congr (fun e _ => by simp)
        rw [this])
    rw [List.length_cons, Nat.mul_succ]
    omega
theorem OkM.few {T : TrM} (h : OkM T) {k : Int} {x : ItM} (hx : aget k T = some x) : x.names.length ≤ 4096 := by
  have h1 := few_of (fun e : Nm × Int => e.2) 64 (T.map (·.1)) x.names (fun e he => by
    obtain ⟨y, hy⟩ := Option.isSome_iff_exists.1 (h.leads k x hx e he).1
    exact List.mem_map.2 ⟨_, aget_mem hy, rfl⟩) (fun j hj => by
      by_cases h0 : j = 0
      · subst h0
        have : x.names.countP (fun e => decide (e.2 = 0)) = 0 := by
          rw [List.countP_eq_zero]
          intro e he
          have := (h.leads k x hx e he).2
          simpa using this
        omega
      · obtain ⟨q, hq, rfl⟩ := List.mem_map.1 hj
        have hy := aget_of_mem iltLaws h.sorted hq
        have h2 := h.counts _ _ hy h0
        have h3 := (h.each _ _ hy).links
        have h4 := cn_le (k := q.1) hx
        unfold cn at h4
        omega)
  have := h.len
  rw [List.length_map] at h1
  omega
theorem mem_aput {T : TrM} (hs : ASorted ilt T) {k j : Int} {x y : ItM} (h : aget j (aput ilt k x T) = some y) : (j = k ∧ y = x) ∨ (j ≠ k ∧ aget j T = some y) := by
  rw [aget_aput] at h
  by_cases hj : j = k
  · rw [if_pos hj] at h
    exact .inl ⟨hj, by simpa using h.symm⟩
  · rw [if_neg hj] at h
    exact .inr ⟨hj, h⟩
theorem ok1_fresh {kind : Int} (hk : kind = 1 ∨ kind = 2) : Ok1 (freshM kind) := by
  refine ⟨hk, fun _ => rfl, fun h => ⟨rfl, ?_, rfl, rfl⟩, (fun h => by cases h), by simp [freshM, ASorted], by simp [freshM], by simp [freshM], by simp [freshM], by simp [freshM]⟩
  have : kind = 2 := h
  simp [freshM, this]
theorem OkP.add {T : TrM} (h : OkP T) {f : Int} {kind : Int} (hk : kind = 1 ∨ kind = 2) (hf : aget f T = none) (h1 : 0 ≤ f) (h2 : f ≤ 65535) (hl : T.length < 64) : OkP (aput ilt f (freshM kind) T) := by
  refine ⟨h.sorted.aput iltLaws _ _, ?_, fun j y hy => ?_, fun j y hy e he => ?_, by rw [length_aput _ hf]; omega, fun j y hy => ?_⟩
  · obtain ⟨x, hx, hk0⟩ := kindM_some h.root
    unfold kindM
    rw [aget_aput, if_neg (fun e => by rw [e, hf] at hx; cases hx), hx]
    exact hk0
  · rcases mem_aput h.sorted hy with ⟨rfl, rfl⟩ | ⟨_, hy⟩
    · exact ok1_fresh hk
    · exact h.each j y hy
  · rcases mem_aput h.sorted hy with ⟨rfl, rfl⟩ | ⟨_, hy⟩
    · cases he
    · have := h.leads j y hy e he
      refine ⟨?_, this.2⟩
      rw [aget_aput]
      split
      · rfl
      · exact this.1
  · rcases mem_aput h.sorted hy with ⟨rfl, rfl⟩ | ⟨_, hy⟩
    · exact ⟨h1, h2⟩
    · exact h.ids j y hy
theorem cntM_add {T : TrM} {f kind : Int} (hf : aget f T = none) (k : Int) : cntM (aput ilt f (freshM kind) T) k = cntM T k := by
  unfold aput
  rw [adel_none hf, cntM_ains]
  simp [cn, freshM]
theorem cn_ains (n : Nm) (id k : Int) : ∀ l : List (Nm × Int), (ains bytesBefore (n, id) l).countP (fun e => decide (e.2 = k)) = l.countP (fun e => decide (e.2 = k)) + if id = k then 1 else 0
  | [] => by simp [ains, List.countP_cons]
  | y :: r => by
    unfold ains
    split
    · simp [List.countP_cons]
    · simp only [List.countP_cons, cn_ains n id k r]
      omega
theorem cn_set {x : ItM} {n : Nm} {id : Int} (h : aget n x.names = none) (k : Int) : cn k { x with names := aput bytesBefore n id x.names } = cn k x + if id = k then 1 else 0 := by
  unfold cn aput
  simp only
  rw [adel_none h, cn_ains]
theorem cntM_zero {T : TrM} (h : OkP T) {f : Int} (hf : aget f T = none) : cntM T f = 0 := by
  have : ∀ l : TrM, (∀ q ∈ l, cn f q.2 = 0) → cntM l f = 0 := by
    intro l
    induction l with
    | nil => intro _; rfl
    | cons y r ih =>
      intro hh
      have h1 := ih (fun q hq => hh q (by simp [hq]))
      have h2 := hh y (by simp)
      unfold cntM at h1 ⊢
      simp only [List.map_cons, List.sum_cons]
      omega
  refine this T fun q hq => ?_
  unfold cn
  rw [List.countP_eq_zero]
  intro e he hd
  have h1 := h.leads _ _ (aget_of_mem iltLaws h.sorted hq) e he
  simp only [decide_eq_true_eq] at hd
  rw [hd, hf] at h1
  cases h1.1
/-- A name is set. -/
theorem ok1_set {x : ItM} (h : Ok1 x) (hk : x.kind = 2) {n : Nm} (hn : goodL n = true) (id : Int) : Ok1 { x with names := aput bytesBefore n id x.names } := by
  refine ⟨h.kind, fun h1 => ?_, h.dir, h.gone, h.sorted.aput bbLt _ _, fun e he => ?_, h.size, h.links, h.til⟩
  · have : x.kind = 1 := h1
    omega
  · rcases (mem_ains bytesBefore).1 he with h1 | h1
    · rw [h1]; exact hn
    · exact h.good e (List.mem_filter.1 h1).1
theorem names_set {x : ItM} {n : Nm} {id : Int} {P : Nm × Int → Prop} (h : ∀ e ∈ x.names, P e) (h1 : P (n, id)) : ∀ e ∈ aput bytesBefore n id x.names, P e := by
  intro e he
  rcases (mem_ains bytesBefore).1 he with h2 | h2
  · rw [h2]; exact h1
  · exact h e (List.mem_filter.1 h2).1
theorem OkP.set {T : TrM} (h : OkP T) {d : Int} {x : ItM} {n : Nm} {id : Int} (hx : aget d T = some x) (hk : x.kind = 2) (hn : goodL n = true) (hid : (aget id T).isSome = true ∧ id ≠ 0) : OkP (setName T d n id) :=
  h.amod hx (ok1_set (h.each d x hx) hk hn id) rfl (names_set (h.leads d x hx) hid)
/-- A node is made. -/
theorem OkM.make {T : TrM} (h : OkM T) {d kind f : Int} {x : ItM} {n : Nm} (hk : kind = 1 ∨ kind = 2) (hf : aget f T = none) (h1 : 1 ≤ f) (h2 : f ≤ 65535) (hl : T.length < 64) (hx : aget d T = some x) (hxk : x.kind = 2) (hn : goodL n = true) (hnn : aget n x.names = none) :
    OkM (setName (aput ilt f (freshM kind) T) d n f) := by
  have hP := h.toOkP.add hk hf (by omega) h2 hl
  have hdf : d ≠ f := fun e => by rw [e, hf] at hx; cases hx
  have hx' : aget d (aput ilt f (freshM kind) T) = some x := by rw [aget_aput, if_neg hdf]; exact hx
  have hff : aget f (aput ilt f (freshM kind) T) = some (freshM kind) := by rw [aget_aput, if_pos rfl]
  refine ⟨hP.set hx' hxk hn ⟨by rw [hff]; rfl, by omega⟩, fun j y hy hj => ?_⟩
  have h3 := cntM_amod hP.sorted (fun x => { x with names := aput bytesBefore n f x.names }) hx' j
  have h4 := cn_set (id := f) hnn j
  have h5 := cntM_add (kind := kind) hf j
  have hgt : ∀ z, aget j (aput ilt f (freshM kind) T) = some z → z.links = y.links → (cntM (setName (aput ilt f (freshM kind) T) d n f) j : Int) = y.links := by
    intro z hz hzl
    unfold setName
    rcases mem_aput h.sorted hz with ⟨rfl, rfl⟩ | ⟨hjf, hz⟩
    · have := cntM_zero h.toOkP hf
      rw [if_pos rfl] at h4
      have e : cntM (Go.Proofs.YtmabllemjkcobaaGreatDoor.amod d (fun x => { x with names := aput bytesBefore n j x.names }) (aput ilt j (freshM kind) T)) j = 1 := by omega
      rw [e, ← hzl]
      rfl
    · rw [if_neg (Ne.symm hjf)] at h4
      have := h.counts j z hz hj
      have e : cntM (Go.Proofs.YtmabllemjkcobaaGreatDoor.amod d (fun x => { x with names := aput bytesBefore n f x.names }) (aput ilt f (freshM kind) T)) j = cntM T j := by omega
      rw [e, this, hzl]
  unfold setName at hy
  rw [aget_amod] at hy
  by_cases hjd : j = d
  · subst hjd
    rw [if_pos rfl, hx'] at hy
    simp only [Option.map_some, Option.some.injEq] at hy
    exact hgt x hx' (by rw [← hy])
  · rw [if_neg hjd] at hy
    exact hgt y hy rfl
end Go.Proofs.YtmabllemjkcobaaGreatDoor
