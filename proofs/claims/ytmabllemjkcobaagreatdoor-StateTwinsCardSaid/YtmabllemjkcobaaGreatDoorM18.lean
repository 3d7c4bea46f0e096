/- How deep a tree is; Rename, as plain data. What holds of a tree, and how deep it is, whatever is done. -/
import Derived.Test.YtmabllemjkcobaaGreatDoorM17
namespace Go.Proofs.YtmabllemjkcobaaGreatDoor
open Go.ChangeShapes Go.WideShapes Go.ChangeAt Go.RowKit
set_option linter.unusedVariables false
set_option linter.unusedSimpArgs false

/-- How many names lead to a directory: none has names that are too deep. -/
structure DepthOk (T : TrM) (dep : Int → Nat) : Prop where
  zero : dep 0 = 0
  up : ∀ d x, aget d T = some x → ∀ e ∈ x.names, dep d < 8 ∧ (kindM T e.2 = 2 → dep e.2 = dep d + 1)
theorem namesM_of {T : TrM} {id : Int} {x : ItM} (hx : aget id T = some x) : namesM T id = x.names := by unfold namesM; rw [hx]
theorem mem_namesM {T : TrM} {id : Int} {e : Nm × Int} (h : e ∈ namesM T id) : ∃ x, aget id T = some x ∧ e ∈ x.names := by
  unfold namesM at h
  cases hx : aget id T with
  | none => rw [hx] at h; cases h
  | some x => rw [hx] at h; exact ⟨x, rfl, h⟩
theorem names_dir {T : TrM} (hT : OkM T) {id : Int} {x : ItM} (hx : aget id T = some x) {e : Nm × Int} (he : e ∈ x.names) : x.kind = 2 := by
  rcases (hT.each id x hx).kind with h | h
  · rw [(hT.each id x hx).file h] at he; cases he
  · exact h
theorem shal_nil {T : TrM} {id : Int} (h : namesM T id = []) : ∀ n, Shal T n id
  | 0 => h
  | n + 1 => fun e he => by rw [h] at he; cases he
theorem DepthOk.shal {T : TrM} {dep : Int → Nat} (h : DepthOk T dep) (hT : OkM T) : ∀ (n : Nat) (d : Int), 8 ≤ n + dep d → Shal T n d
  | 0, d, hd => by
    show namesM T d = []
    cases hn : namesM T d with
    | nil => rfl
    | cons e r =>
      obtain ⟨x, hx, he⟩ := mem_namesM (T := T) (id := d) (e := e) (by rw [hn]; simp)
      have := (h.up d x hx e he).1
      omega
  | n + 1, d, hd => fun e he => by
    obtain ⟨x, hx, he⟩ := mem_namesM he
    by_cases hk : kindM T e.2 = 2
    · have := (h.up d x hx e he).2 hk
      exact h.shal hT n e.2 (by omega)
    · refine shal_nil ?_ n
      obtain ⟨y, hy⟩ := Option.isSome_iff_exists.1 (hT.leads d x hx e he).1
      rw [kindM_of hy] at hk
      rw [namesM_of hy]
      exact (hT.each _ y hy).file ((hT.each _ y hy).kind.resolve_right hk)
theorem DepthOk.shal8 {T : TrM} {dep : Int → Nat} (h : DepthOk T dep) (hT : OkM T) (d : Int) : Shal T 8 d := h.shal hT 8 d (by omega)
theorem look_cons {T : TrM} {a d : Int} {n : Nm} {r : List Nm} (h : lookM T a (n :: r) = (d, 0)) : ∃ x k, aget a T = some x ∧ x.kind = 2 ∧ aget n x.names = some k ∧ lookM T k r = (d, 0) := by
  simp only [lookM] at h
  cases hx : aget a T with
  | none => rw [hx] at h; cases h
  | some x =>
    rw [hx] at h
    simp only at h
    by_cases hk : x.kind = 2
    · rw [if_pos hk] at h
      cases hn : aget n x.names with
      | none => rw [hn] at h; cases h
      | some k => rw [hn] at h; exact ⟨x, k, rfl, hk, hn, h⟩
    · rw [if_neg hk] at h; cases h
theorem dep_look {T : TrM} {dep : Int → Nat} (h : DepthOk T dep) : ∀ (p : List Nm) (a d : Int), lookM T a p = (d, 0) → kindM T d = 2 → dep d = dep a + p.length
  | [], a, d, hl, _ => by
    have : a = d := congrArg Prod.fst hl
    subst this; rfl
  | n :: r, a, d, hl, hd => by
    obtain ⟨x, k, hx, hk, hn, hl⟩ := look_cons hl
    have hkk : kindM T k = 2 := by
      cases r with
      | nil =>
        have : k = d := congrArg Prod.fst hl
        rw [this]; exact hd
      | cons m s =>
        obtain ⟨y, j, hy, hyk, _⟩ := look_cons hl
        rw [kindM_of hy]; exact hyk
    have h1 := (h.up a x hx _ (aget_mem hn)).2 hkk
    have h2 := dep_look h r k d hl hd
    simp only at h1
    rw [List.length_cons]
    omega
/-- A directory has one name. -/
theorem one_name {T : TrM} (hT : OkM T) {a b k : Int} {x y : ItM} {n m : Nm} (hx : aget a T = some x) (hn : aget n x.names = some k) (hy : aget b T = some y) (hm : aget m y.names = some k) (hk : kindM T k = 2) : a = b ∧ n = m := by
  obtain ⟨z, hz, hzk⟩ := kindM_some hk
  have h0 := (hT.leads a x hx _ (aget_mem hn)).2
  have hc := hT.counts k z hz h0
  rw [((hT.each k z hz).dir hzk).1] at hc
  have h1 := cntM_cut hT.toOkP hx hn k
  rw [if_pos rfl] at h1
  have h2 : cntM (cutName T a n) k = 0 := by omega
  by_cases hab : b = a
  · subst hab
    rw [hx] at hy; cases hy
    refine ⟨rfl, ?_⟩
    by_cases hnm : m = n
    · exact hnm.symm
    · have hg : aget b (cutName T b n) = some { x with names := adel n x.names } := by unfold cutName; rw [aget_amod, if_pos rfl, hx]; rfl
      have hm' : aget m (adel n x.names) = some k := by rw [aget_adel_other hnm]; exact hm
      exact absurd rfl (cn_zero h2 hg _ (aget_mem hm'))
  · have hg : aget b (cutName T a n) = some y := by unfold cutName; rw [aget_amod, if_neg hab]; exact hy
    exact absurd rfl (cn_zero h2 hg _ (aget_mem hm))
/-- .. and one path. -/
theorem one_path {T : TrM} (hT : OkM T) : ∀ (l : Nat) (p q : List Nm) (d : Int), p.length ≤ l → lookM T 0 p = (d, 0) → lookM T 0 q = (d, 0) → kindM T d = 2 → p = q
  | l, p, q, d, hl, hp, hq, hd => by
    by_cases h1 : p = []
    · subst h1
      by_cases h2 : q = []
      · exact h2.symm
      · obtain ⟨d', x, n, -, -, hx, _, hn, _⟩ := place_of_look hq h2
        have h0 : (0 : Int) = d := congrArg Prod.fst hp
        have := (hT.leads d' x hx _ (aget_mem hn)).2
        exact absurd h0.symm this
    · obtain ⟨d1, x, n, -, hl1, hx, hxk, hn, _, e1⟩ := place_of_look hp h1
      by_cases h2 : q = []
      · subst h2
        have h0 : (0 : Int) = d := congrArg Prod.fst hq
        have := (hT.leads d1 x hx _ (aget_mem hn)).2
        exact absurd h0.symm this
      · obtain ⟨d2, y, m, -, hl2, hy, _, hm, _, e2⟩ := place_of_look hq h2
        obtain ⟨hab, hnm⟩ := one_name hT hx hn hy hm hd
        subst hab hnm
        have hlen : p.dropLast.length < p.length := by
          rw [List.length_dropLast]
          have : p.length ≠ 0 := fun e => h1 (List.eq_nil_of_length_eq_zero e)
          omega
        match l, hl with
        | 0, hl => exact absurd (List.eq_nil_of_length_eq_zero (by omega)) h1
        | l + 1, hl =>
          have := one_path hT l p.dropLast q.dropLast d1 (by omega) hl1 hl2 ((kindM_of hx).trans hxk)
          rw [e1, e2, this]
/-- What lies below a node. -/
def Desc (T : TrM) (id d : Int) : Prop := ∃ q, lookM T id q = (d, 0)
theorem deep_ge {T : TrM} (hT : OkM T) : ∀ (q : List Nm) (id d : Int) (x : ItM) (e : Nm × Int) (n : Nat), lookM T id q = (d, 0) → aget d T = some x → e ∈ x.names → q.length < n → q.length + 1 ≤ deepM T n id
  | [], id, d, x, e, n + 1, hl, hx, he, hn => by
    have : id = d := congrArg Prod.fst hl
    subst this
    have : 1 + deepM T n e.2 ≤ maxD (deepM T n) (namesM T id) := maxD_ge _ (by rw [namesM_of hx]; exact he)
    show 0 + 1 ≤ maxD (deepM T n) (namesM T id)
    omega
  | m :: r, id, d, x, e, n + 1, hl, hx, he, hn => by
    obtain ⟨y, k, hy, hyk, hm, hl⟩ := look_cons hl
    rw [List.length_cons] at hn
    have h1 := deep_ge hT r k d x e n hl hx he (by omega)
    have : 1 + deepM T n k ≤ maxD (deepM T n) (namesM T id) := maxD_ge (deepM T n) (e := (m, k)) (by rw [namesM_of hy]; exact aget_mem hm)
    show (m :: r).length + 1 ≤ maxD (deepM T n) (namesM T id)
    rw [List.length_cons]
    omega
  | q, _, _, _, _, 0, _, _, _, hn => by omega

/-- Is a path, or its directories', another one? -/
def withinL (p q : List Nm) : Bool := decide (p.take q.length = q)
def renameE (T : TrM) (p tq : List Nm) : Int :=
  if fine2 p tq ≠ 0 then fine2 p tq else
  if (lookM T 0 p).2 ≠ 0 then (lookM T 0 p).2 else
  if (lookM T 0 p).1 = 0 then 1 else
  if (placeM T tq).2.2 ≠ 0 then (placeM T tq).2.2 else
  if kindM T (lookM T 0 p).1 = 2 ∧ withinL tq p = true then 1 else
  match aget (placeM T tq).2.1 (namesM T (placeM T tq).1) with
  | some k => if k = (lookM T 0 p).1 then 0 else 21
  | none => if 8 < tq.length + deepM T 8 (lookM T 0 p).1 then 3 else 0
def renameOk (T : TrM) (p tq : List Nm) : TrM := setName (cutName T (placeM T p).1 (placeM T p).2.1) (placeM T tq).1 (placeM T tq).2.1 (lookM T 0 p).1
def renameM (T : TrM) (p tq : List Nm) : Int × TrM :=
  (renameE T p tq, if renameE T p tq = 0 ∧ (aget (placeM T tq).2.1 (namesM T (placeM T tq).1)).isSome = false then renameOk T p tq else T)

/-- A name moves. -/
theorem OkM.move {T : TrM} (h : OkM T) {d1 d2 id : Int} {x1 x2 : ItM} {n1 n2 : Nm} (hx1 : aget d1 T = some x1) (hk1 : x1.kind = 2) (hn1 : aget n1 x1.names = some id) (hx2 : aget d2 T = some x2) (hk2 : x2.kind = 2) (hg2 : goodL n2 = true) (hn2 : aget n2 x2.names = none) :
    OkM (setName (cutName T d1 n1) d2 n2 id) := by
  have hid := h.leads d1 x1 hx1 _ (aget_mem hn1)
  have hP := h.toOkP.cut (n := n1) hx1 hk1
  obtain ⟨x3, hx3, hk3, hn3⟩ : ∃ x3, aget d2 (cutName T d1 n1) = some x3 ∧ x3.kind = 2 ∧ aget n2 x3.names = none := by
    unfold cutName
    rw [aget_amod]
    by_cases hd : d2 = d1
    · subst hd
      rw [hx1] at hx2; cases hx2
      rw [if_pos rfl, hx1]
      refine ⟨_, rfl, hk1, ?_⟩
      show aget n2 (adel n1 x1.names) = none
      rw [aget_adel]
      split
      · rfl
      · exact hn2
    · rw [if_neg hd]; exact ⟨x2, hx2, hk2, hn2⟩
  have hid3 : (aget id (cutName T d1 n1)).isSome = true := by
    unfold cutName; rw [aget_amod]
    split <;> simp [hid.1]
  refine ⟨hP.set hx3 hk3 hg2 ⟨hid3, hid.2⟩, fun j z hz hj => ?_⟩
  have h1 := cntM_cut h.toOkP hx1 hn1 j
  have h2 := cntM_amod hP.sorted (fun x => { x with names := aput bytesBefore n2 id x.names }) hx3 j
  have h3 := cn_set (id := id) hn3 j
  have e : cntM (setName (cutName T d1 n1) d2 n2 id) j = cntM T j := by
    unfold setName
    omega
  rw [e]
  unfold setName at hz
  rw [aget_amod] at hz
  obtain ⟨z1, hz1, hl1⟩ : ∃ z1, aget j (cutName T d1 n1) = some z1 ∧ z.links = z1.links := by
    by_cases hjd : j = d2
    · rw [if_pos hjd] at hz
      cases hq : aget j (cutName T d1 n1) with
      | none => rw [hq] at hz; cases hz
      | some z1 =>
        rw [hq] at hz
        simp only [Option.map_some, Option.some.injEq] at hz
        exact ⟨z1, rfl, by rw [← hz]⟩
    · rw [if_neg hjd] at hz; exact ⟨z, hz, rfl⟩
  obtain ⟨z2, hz2, hl2, _⟩ := cut_get hz1
  rw [hl1, hl2]
  exact h.counts j z2 hz2 hj
/-- What is below a directory and what is not, when it moves. -/
theorem desc_dir {T : TrM} (hT : OkM T) {id a k : Int} {x : ItM} {n : Nm} (hx : aget a T = some x) (hn : aget n x.names = some k) (hk : kindM T k = 2) (hki : k ≠ id) : Desc T id k ↔ Desc T id a := by
  constructor
  · rintro ⟨q, hq⟩
    rcases List.eq_nil_or_concat q with rfl | ⟨r, m, rfl⟩
    · exact absurd (congrArg Prod.fst hq).symm hki
    · rw [List.concat_eq_append, lookM_append] at hq
      by_cases he : (lookM T id r).2 = 0
      · rw [if_pos he] at hq
        obtain ⟨y, j, hy, hyk, hm, hl⟩ := look_cons hq
        have : j = k := congrArg Prod.fst hl
        subst this
        obtain ⟨hab, _⟩ := one_name hT hx hn hy hm hk
        exact ⟨r, Prod.ext hab.symm he⟩
      · rw [if_neg he] at hq
        rw [hq] at he
        exact absurd rfl he
  · rintro ⟨q, hq⟩
    refine ⟨q ++ [n], ?_⟩
    rw [lookM_append, hq]
    simp only [if_pos]
    have := names_dir hT hx (aget_mem hn)
    simp only [lookM, hx, if_pos this, hn]
theorem names_move {T : TrM} {d1 d2 id : Int} {n1 n2 : Nm} {a : Int} {x : ItM} (h : aget a (setName (cutName T d1 n1) d2 n2 id) = some x) : ∃ y, aget a T = some y ∧ x.kind = y.kind ∧ ∀ e ∈ x.names, (e ∈ y.names ∧ ¬ (a = d1 ∧ e.1 = n1)) ∨ (a = d2 ∧ e = (n2, id)) := by
  obtain ⟨z, hz, hk, hc⟩ : ∃ z, aget a (cutName T d1 n1) = some z ∧ x.kind = z.kind ∧ ∀ e ∈ x.names, e ∈ z.names ∨ (a = d2 ∧ e = (n2, id)) := by
    unfold setName at h
    rw [aget_amod] at h
    by_cases hd : a = d2
    · rw [if_pos hd] at h
      cases hz : aget a (cutName T d1 n1) with
      | none => rw [hz] at h; cases h
      | some z =>
        rw [hz] at h
        simp only [Option.map_some, Option.some.injEq] at h
        refine ⟨z, rfl, by rw [← h], fun e he => ?_⟩
        rw [← h] at he
        rcases (mem_ains bytesBefore).1 he with h2 | h2
        · exact .inr ⟨hd, h2⟩
        · exact .inl (List.mem_filter.1 h2).1
    · rw [if_neg hd] at h; exact ⟨x, h, rfl, fun e he => .inl he⟩
  unfold cutName at hz
  rw [aget_amod] at hz
  by_cases hd : a = d1
  · rw [if_pos hd] at hz
    cases hy : aget a T with
    | none => rw [hy] at hz; cases hz
    | some y =>
      rw [hy] at hz
      simp only [Option.map_some, Option.some.injEq] at hz
      refine ⟨y, rfl, by rw [hk, ← hz], fun e he => ?_⟩
      rcases hc e he with h1 | h1
      · rw [← hz] at h1
        have h2 := List.mem_filter.1 h1
        refine .inl ⟨h2.1, fun h3 => ?_⟩
        have := h2.2
        simp [h3.2] at this
      · exact .inr h1
  · rw [if_neg hd] at hz
    refine ⟨z, hz, hk, fun e he => ?_⟩
    rcases hc e he with h1 | h1
    · exact .inl ⟨h1, fun h => hd h.1⟩
    · exact .inr h1
theorem kind_amod {T : TrM} {d : Int} {f : ItM → ItM} (hf : ∀ x, (f x).kind = x.kind) (k : Int) : kindM (amod d f T) k = kindM T k := by
  unfold kindM
  rw [aget_amod]
  by_cases h : k = d
  · rw [if_pos h]
    cases aget k T with
    | none => rfl
    | some y => exact hf y
  · rw [if_neg h]
theorem kind_move {T : TrM} {d1 d2 id : Int} {n1 n2 : Nm} (k : Int) : kindM (setName (cutName T d1 n1) d2 n2 id) k = kindM T k := by
  unfold setName cutName
  exact (kind_amod (fun _ => by exact rfl) k).trans (kind_amod (fun _ => by exact rfl) k)
open Classical in
theorem DepthOk.move {T : TrM} {dep : Int → Nat} (h : DepthOk T dep) (hT : OkM T) {p tq : List Nm} {id dt : Int} {nt : Nm} (hp : lookM T 0 p = (id, 0)) (h0 : id ≠ 0) (hto : placeM T tq = (dt, nt, 0)) (hf : tq.length ≤ 8) (hw : kindM T id = 2 → withinL tq p = false ∧ tq.length + deepM T 8 id ≤ 8) :
    ∃ dep', DepthOk (setName (cutName T (placeM T p).1 (placeM T p).2.1) dt nt id) dep' := by
  have hpn : p ≠ [] := fun e => by subst e; exact h0 (congrArg Prod.fst hp).symm
  obtain ⟨d1, x1, n1, e1, hl1, hx1, hk1, hn1, _, ep⟩ := place_of_look hp hpn
  rw [e1]
  obtain ⟨hln, hlt, hkt⟩ : tq ≠ [] ∧ lookM T 0 tq.dropLast = (dt, 0) ∧ kindM T dt = 2 := by
    unfold placeM at hto
    by_cases ht0 : tq = []
    · rw [if_pos ht0] at hto; cases hto
    · rw [if_neg ht0] at hto
      by_cases ht1 : (lookM T 0 tq.dropLast).2 ≠ 0
      · rw [if_pos ht1] at hto
        exact absurd (congrArg (·.2.2) hto) ht1
      · rw [if_neg ht1] at hto
        by_cases ht2 : kindM T (lookM T 0 tq.dropLast).1 = 2
        · rw [if_pos ht2] at hto
          have h3 : (lookM T 0 tq.dropLast).1 = dt := congrArg Prod.fst hto
          exact ⟨ht0, Prod.ext h3 (by simpa using ht1), h3 ▸ ht2⟩
        · rw [if_neg ht2] at hto; cases hto
  have hdt := dep_look h _ 0 dt hlt hkt
  rw [h.zero, List.length_dropLast] at hdt
  have htl : tq.length ≠ 0 := fun e => hln (List.eq_nil_of_length_eq_zero e)
  by_cases hk : kindM T id = 2
  · obtain ⟨hw1, hw2⟩ := hw hk
    have hdid := dep_look h p 0 id hp hk
    rw [h.zero] at hdid
    have hnt : ¬ Desc T id dt := by
      rintro ⟨q, hq⟩
      have h3 : lookM T 0 (p ++ q) = (dt, 0) := by rw [lookM_append, hp]; simp only [if_pos]; exact hq
      have h4 := one_path hT _ _ _ dt (Nat.le_refl _) hlt h3 hkt
      have h5 : tq.take p.length = p := by
        have h6 : tq.dropLast.take p.length = p := by rw [h4, List.take_left]
        have h7 : p.length ≤ tq.length - 1 := by
          have := congrArg List.length h4
          rw [List.length_dropLast, List.length_append] at this
          omega
        rw [List.dropLast_eq_take, List.take_take, Nat.min_eq_left h7] at h6
        exact h6
      unfold withinL at hw1
      rw [h5] at hw1
      simp at hw1
    refine ⟨fun d => if Desc T id d then dep d + tq.length - p.length else dep d, ?_, fun d x hx e he => ?_⟩
    · have : ¬ Desc T id 0 := by
        rintro ⟨q, hq⟩
        have h3 : lookM T 0 (p ++ q) = (0, 0) := by rw [lookM_append, hp]; simp only [if_pos]; exact hq
        have h4 := one_path hT 0 [] _ 0 (Nat.le_refl _) rfl h3 hT.root
        have := congrArg List.length h4
        rw [List.length_append] at this
        exact hpn (List.eq_nil_of_length_eq_zero (by simp at this; omega))
      simp only [if_neg this, h.zero]
    · obtain ⟨y, hy, hxy, hnm⟩ := names_move hx
      rw [kind_move]
      rcases hnm e he with ⟨hey, hne⟩ | ⟨hd, hee⟩
      · have hup := h.up d y hy e hey
        have hyk := names_dir hT hy hey
        have hn := aget_of_mem bbLt (hT.each d y hy).sorted hey
        by_cases hD : Desc T id d
        · obtain ⟨q, hq⟩ := hD
          have h3 := dep_look h q id d hq ((kindM_of hy).trans hyk)
          have hq8 : q.length < 8 := by have := hup.1; omega
          have h4 := deep_ge hT q id d y e 8 hq hy hey hq8
          simp only [if_pos (show Desc T id d from ⟨q, hq⟩)]
          refine ⟨by omega, fun hek => ?_⟩
          have hei : e.2 ≠ id := fun h5 => by
            obtain ⟨h6, h7⟩ := one_name hT hx1 hn1 hy (by rw [← h5]; exact hn) hk
            exact hne ⟨h6.symm, h7.symm⟩
          have := hup.2 hek
          rw [if_pos ((desc_dir hT hy hn hek hei).2 ⟨q, hq⟩)]
          omega
        · simp only [if_neg hD]
          refine ⟨hup.1, fun hek => ?_⟩
          have hei : e.2 ≠ id := fun h5 => by
            obtain ⟨h6, h7⟩ := one_name hT hx1 hn1 hy (by rw [← h5]; exact hn) hk
            exact hne ⟨h6.symm, h7.symm⟩
          rw [if_neg (fun h6 => hD ((desc_dir hT hy hn hek hei).1 h6))]
          exact hup.2 hek
      · subst hd hee
        simp only [if_neg hnt]
        refine ⟨by omega, fun _ => ?_⟩
        rw [if_pos ⟨[], rfl⟩]
        omega
  · refine ⟨dep, h.zero, fun d x hx e he => ?_⟩
    obtain ⟨y, hy, hxy, hnm⟩ := names_move hx
    rw [kind_move]
    rcases hnm e he with ⟨hey, _⟩ | ⟨hd, hee⟩
    · exact h.up d y hy e hey
    · subst hd hee
      exact ⟨by omega, fun h3 => absurd h3 hk⟩
end Go.Proofs.YtmabllemjkcobaaGreatDoor
namespace Go.Proofs.YtmabllemjkcobaaGreatDoor
open Go.ChangeShapes Go.WideShapes Go.ChangeAt Go.RowKit
set_option linter.unusedVariables false
set_option linter.unusedSimpArgs false

theorem place_look {T : TrM} {tq : List Nm} {dt : Int} {nt : Nm} (hto : placeM T tq = (dt, nt, 0)) : tq ≠ [] ∧ lookM T 0 tq.dropLast = (dt, 0) ∧ kindM T dt = 2 := by
  unfold placeM at hto
  by_cases ht0 : tq = []
  · rw [if_pos ht0] at hto; cases hto
  · rw [if_neg ht0] at hto
    by_cases ht1 : (lookM T 0 tq.dropLast).2 ≠ 0
    · rw [if_pos ht1] at hto
      exact absurd (congrArg (·.2.2) hto) ht1
    · rw [if_neg ht1] at hto
      by_cases ht2 : kindM T (lookM T 0 tq.dropLast).1 = 2
      · rw [if_pos ht2] at hto
        have h3 : (lookM T 0 tq.dropLast).1 = dt := congrArg Prod.fst hto
        exact ⟨ht0, Prod.ext h3 (by simpa using ht1), h3 ▸ ht2⟩
      · rw [if_neg ht2] at hto; cases hto
theorem DepthOk.place {T : TrM} {dep : Int → Nat} (h : DepthOk T dep) {tq : List Nm} {dt : Int} {nt : Nm} (hto : placeM T tq = (dt, nt, 0)) (hf : tq.length ≤ 8) : dep dt < 8 := by
  obtain ⟨h1, h2, h3⟩ := place_look hto
  have := dep_look h _ 0 dt h2 h3
  rw [h.zero, List.length_dropLast] at this
  have : tq.length ≠ 0 := fun e => h1 (List.eq_nil_of_length_eq_zero e)
  omega
/-- No names but those that were there. -/
def Sub (T' T : TrM) : Prop := ∀ d x, aget d T' = some x → ∃ y, aget d T = some y ∧ x.kind = y.kind ∧ ∀ e ∈ x.names, e ∈ y.names
theorem Sub.refl (T : TrM) : Sub T T := fun d x h => ⟨x, h, rfl, fun _ he => he⟩
theorem Sub.trans {A B C : TrM} (h : Sub A B) (k : Sub B C) : Sub A C := fun d x hx => by
  obtain ⟨y, hy, h1, h2⟩ := h d x hx
  obtain ⟨z, hz, h3, h4⟩ := k d y hy
  exact ⟨z, hz, h1.trans h3, fun e he => h4 e (h2 e he)⟩
theorem Sub.amod {T : TrM} {k : Int} {f : ItM → ItM} (h1 : ∀ x, (f x).kind = x.kind) (h2 : ∀ x, ∀ e ∈ (f x).names, e ∈ x.names) : Sub (Go.Proofs.YtmabllemjkcobaaGreatDoor.amod k f T) T := fun d x hx => by
  rw [aget_amod] at hx
  by_cases hd : d = k
  · rw [if_pos hd] at hx
    cases hy : aget d T with
    | none => rw [hy] at hx; cases hx
    | some y =>
      rw [hy] at hx
      simp only [Option.map_some, Option.some.injEq] at hx
      exact ⟨y, rfl, by rw [← hx]; exact h1 y, fun e he => h2 y e (by rw [hx]; exact he)⟩
  · rw [if_neg hd] at hx; exact ⟨x, hx, rfl, fun _ he => he⟩
theorem Sub.del {T : TrM} (k : Int) : Sub (adel k T) T := fun d x hx => by
  rw [aget_adel] at hx
  split at hx
  · cases hx
  · exact ⟨x, hx, rfl, fun _ he => he⟩
theorem Sub.settle {T : TrM} (k : Int) : Sub (settleM T k) T := by
  unfold settleM
  cases aget k T with
  | none => exact Sub.refl T
  | some x =>
    simp only
    split
    · exact Sub.del k
    · exact Sub.refl T
theorem Sub.cut {T : TrM} (d : Int) (n : Nm) : Sub (cutName T d n) T := Sub.amod (fun _ => by exact rfl) fun x e he => (List.mem_filter.1 he).1
theorem DepthOk.sub {T T' : TrM} {dep : Int → Nat} (h : DepthOk T dep) (hs : Sub T' T) : DepthOk T' dep := by
  refine ⟨h.zero, fun d x hx e he => ?_⟩
  obtain ⟨y, hy, _, hn⟩ := hs d x hx
  have h1 := h.up d y hy e (hn e he)
  refine ⟨h1.1, fun hk => h1.2 ?_⟩
  obtain ⟨z, hz, hzk⟩ := kindM_some hk
  obtain ⟨u, hu, huk, _⟩ := hs _ z hz
  rw [kindM_of hu, ← huk]; exact hzk
/-- A name is set. -/
theorem names_set' {T : TrM} {d id a : Int} {n : Nm} {x : ItM} (h : aget a (setName T d n id) = some x) : ∃ y, aget a T = some y ∧ x.kind = y.kind ∧ ∀ e ∈ x.names, e ∈ y.names ∨ (a = d ∧ e = (n, id)) := by
  unfold setName at h
  rw [aget_amod] at h
  by_cases hd : a = d
  · rw [if_pos hd] at h
    cases hz : aget a T with
    | none => rw [hz] at h; cases h
    | some z =>
      rw [hz] at h
      simp only [Option.map_some, Option.some.injEq] at h
      refine ⟨z, rfl, by rw [← h], fun e he => ?_⟩
      rw [← h] at he
      rcases (mem_ains bytesBefore).1 he with h2 | h2
      · exact .inr ⟨hd, h2⟩
      · exact .inl (List.mem_filter.1 h2).1
  · rw [if_neg hd] at h; exact ⟨x, h, rfl, fun e he => .inl he⟩
theorem kind_set {T : TrM} {d id : Int} {n : Nm} (k : Int) : kindM (setName T d n id) k = kindM T k := by
  unfold setName
  exact kind_amod (fun _ => by exact rfl) k
theorem DepthOk.link {T : TrM} {dep : Int → Nat} (h : DepthOk T dep) {d id : Int} {n : Nm} (hd : dep d < 8) (hk : kindM T id ≠ 2) : DepthOk (setName T d n id) dep := by
  refine ⟨h.zero, fun a x hx e he => ?_⟩
  rw [kind_set]
  obtain ⟨y, hy, _, hn⟩ := names_set' hx
  rcases hn e he with h1 | ⟨h1, h2⟩
  · exact h.up a y hy e h1
  · subst h1 h2
    exact ⟨hd, fun h3 => absurd h3 hk⟩
theorem DepthOk.make {T : TrM} {dep : Int → Nat} (h : DepthOk T dep) (hT : OkM T) {d f kind : Int} {n : Nm} (hd : dep d < 8) (hf : aget f T = none) (hf0 : f ≠ 0) (hdt : (aget d T).isSome = true) : ∃ dep', DepthOk (setName (aput ilt f (freshM kind) T) d n f) dep' := by
  refine ⟨fun k => if k = f then dep d + 1 else dep k, by simp only [if_neg (Ne.symm hf0), h.zero], fun a x hx e he => ?_⟩
  have hdf : d ≠ f := fun e => by rw [e, hf] at hdt; cases hdt
  obtain ⟨y, hy, _, hn⟩ := names_set' hx
  rw [kind_set]
  rcases mem_aput hT.sorted hy with ⟨h1, h2⟩ | ⟨h1, h2⟩
  · rcases hn e he with h3 | ⟨h3, h4⟩
    · rw [h2] at h3; cases h3
    · exact absurd (h3.symm.trans h1) hdf
  · rcases hn e he with h3 | ⟨h3, h4⟩
    · have hup := h.up a y h2 e h3
      have hl := (hT.leads a y h2 e h3).1
      have hef : e.2 ≠ f := fun e5 => by rw [e5, hf] at hl; cases hl
      simp only [if_neg h1, if_neg hef]
      have : kindM (aput ilt f (freshM kind) T) e.2 = kindM T e.2 := by unfold kindM; rw [aget_aput, if_neg hef]
      rw [this]
      exact hup
    · subst h3 h4
      simp only [if_neg h1, if_pos]
      exact ⟨hd, fun _ => trivial⟩

/-- What holds of each tree: its counts, and that it is not too deep. -/
def Okay (T : TrM) : Prop := OkM T ∧ ∃ dep, DepthOk T dep
theorem Okay.new : Okay newM := by
  refine ⟨newM_ok, fun _ => 0, rfl, fun d x hx e he => ?_⟩
  unfold newM at hx
  rw [aget_cons] at hx
  by_cases hk : (0 : Int) = d
  · rw [if_pos hk] at hx
    cases hx
    cases he
  · rw [if_neg hk] at hx; cases hx
theorem Okay.shal {T : TrM} (h : Okay T) (d : Int) : Shal T 8 d := by
  obtain ⟨h1, dep, h2⟩ := h
  exact h2.shal8 h1 d
theorem Okay.makeM {T : TrM} (h : Okay T) (ls : List Nm) (kind : Int) : Okay (makeM T ls kind).2 := by
  obtain ⟨h1, dep, h2⟩ := h
  refine ⟨h1.makeM ls kind, ?_⟩
  unfold Go.Proofs.YtmabllemjkcobaaGreatDoor.makeM
  by_cases he : makeE T ls kind = 0
  · rw [if_pos he]
    obtain ⟨a1, a2, a3, a4, a5⟩ := makeE_zero h1 he
    obtain ⟨x, hx, hk, hm⟩ := placeM_spec h1 a3
    obtain ⟨f, hf, hf1, hf2, hfn, _⟩ := h1.free
    show ∃ dep, DepthOk (makeOk T ls kind) dep
    unfold makeOk
    rw [hf]
    exact h2.make h1 (h2.place (nt := (placeM T ls).2.1) (Prod.ext rfl (Prod.ext rfl a3)) (fineL_len a1)) hfn (by omega) (by rw [hx]; rfl)
  · rw [if_neg he]; exact ⟨dep, h2⟩
theorem Okay.linkM {T : TrM} (h : Okay T) (p tq : List Nm) : Okay (linkM T p tq).2 := by
  obtain ⟨h1, dep, h2⟩ := h
  refine ⟨h1.linkM p tq, ?_⟩
  unfold Go.Proofs.YtmabllemjkcobaaGreatDoor.linkM
  by_cases he : linkE T p tq = 0
  · simp only [if_pos he]
    obtain ⟨a1, a2, a3, a4, a5, a6⟩ := linkE_zero he
    have h3 := h2.link (n := (placeM T tq).2.1) (h2.place (nt := (placeM T tq).2.1) (Prod.ext rfl (Prod.ext rfl a4)) (fineL_len (fine2_zero a1).2)) a3
    unfold linkOk
    exact ⟨dep, h3.sub (Sub.amod (fun _ => by exact rfl) fun x e he => he)⟩
  · simp only [if_neg he]; exact ⟨dep, h2⟩
theorem Okay.unlinkM {T : TrM} (h : Okay T) (p : List Nm) : Okay (unlinkM T p).2 := by
  obtain ⟨h1, dep, h2⟩ := h
  refine ⟨h1.unlinkM p, dep, ?_⟩
  unfold Go.Proofs.YtmabllemjkcobaaGreatDoor.unlinkM
  simp only
  split
  · unfold unlinkOk
    exact h2.sub ((Sub.settle _).trans ((Sub.amod (f := fun x => { x with links := x.links - 1 }) (fun _ => by exact rfl) fun x e he => he).trans (Sub.cut _ _)))
  · exact h2
theorem Okay.rmdirM {T : TrM} (h : Okay T) (p : List Nm) : Okay (rmdirM T p).2 := by
  obtain ⟨h1, dep, h2⟩ := h
  refine ⟨h1.rmdirM p, dep, ?_⟩
  unfold Go.Proofs.YtmabllemjkcobaaGreatDoor.rmdirM
  simp only
  split
  · unfold rmdirOk
    exact h2.sub ((Sub.del _).trans (Sub.cut _ _))
  · exact h2
theorem Okay.appendM {T : TrM} (h : Okay T) (id : Int) (b : List UInt8) : Okay (appendM T id b).2 := by
  obtain ⟨h1, dep, h2⟩ := h
  refine ⟨h1.appendM id b, dep, ?_⟩
  unfold Go.Proofs.YtmabllemjkcobaaGreatDoor.appendM
  simp only
  split
  · exact h2.sub (Sub.amod (fun _ => by exact rfl) fun x e he => he)
  · exact h2
theorem Okay.sealM {T : TrM} (h : Okay T) (id til : Int) (h0 : 0 ≤ til) : Okay (sealM T id til).2 := by
  obtain ⟨h1, dep, h2⟩ := h
  refine ⟨h1.sealM id til h0, dep, ?_⟩
  unfold Go.Proofs.YtmabllemjkcobaaGreatDoor.sealM
  simp only
  split
  · exact h2.sub ((Sub.settle _).trans (Sub.amod (fun _ => by exact rfl) fun x e he => he))
  · exact h2
theorem Okay.keepM {T : TrM} (h : Okay T) (id til : Int) (h0 : 0 ≤ til) : Okay (keepM T id til).2 := by
  obtain ⟨h1, dep, h2⟩ := h
  refine ⟨h1.keepM id til h0, dep, ?_⟩
  unfold Go.Proofs.YtmabllemjkcobaaGreatDoor.keepM
  simp only
  split
  · exact h2.sub (Sub.amod (fun _ => by exact rfl) fun x e he => he)
  · exact h2

/-- The names of one are gone. -/
def stripM (T : TrM) (id : Int) : TrM := T.map fun q => (q.1, { q.2 with names := q.2.names.filter fun e => !decide (e.2 = id) })
theorem dropOk_eq (T : TrM) (id : Int) : dropOk T id = adel id (stripM T id) := rfl
def stripI (id : Int) (x : ItM) : ItM := { x with names := x.names.filter fun e => !decide (e.2 = id) }
theorem stripM_get (T : TrM) (id k : Int) : aget k (stripM T id) = (aget k T).map (stripI id) := aget_map (stripI id) k T
theorem cn_strip (id j : Int) (x : ItM) : cn j (stripI id x) = if j = id then 0 else cn j x := by
  unfold cn stripI
  simp only
  rw [List.countP_filter]
  by_cases h : j = id
  · subst h
    rw [if_pos rfl, List.countP_eq_zero]
    intro e _
    simp
  · rw [if_neg h]
    apply List.countP_congr
    intro e _
    simp only [Bool.and_eq_true, decide_eq_true_eq, Bool.not_eq_true', decide_eq_false_iff_not]
    exact ⟨fun h1 => h1.1, fun h1 => ⟨h1, fun h2 => h (h1.symm.trans h2)⟩⟩
theorem cntM_strip (T : TrM) (id j : Int) : cntM (stripM T id) j = if j = id then 0 else cntM T j := by
  induction T with
  | nil => simp [cntM, stripM]
  | cons y r ih =>
    have e1 : cntM (stripM (y :: r) id) j = cn j (stripI id y.2) + cntM (stripM r id) j := by
      unfold cntM stripM stripI; simp
    have e2 : cntM (y :: r) j = cn j y.2 + cntM r j := by unfold cntM; simp
    rw [e1, e2, ih, cn_strip]
    split <;> simp
theorem OkP.strip {T : TrM} (h : OkP T) (id : Int) : OkP (stripM T id) := by
  have hget : ∀ k x, aget k (stripM T id) = some x → ∃ y, aget k T = some y ∧ x = stripI id y := fun k x hx => by
    rw [stripM_get] at hx
    cases hy : aget k T with
    | none => rw [hy] at hx; cases hx
    | some y =>
      rw [hy] at hx
      simp only [Option.map_some, Option.some.injEq] at hx
      exact ⟨y, rfl, hx.symm⟩
  refine ⟨?_, ?_, fun k x hx => ?_, fun k x hx e he => ?_, by unfold stripM; rw [List.length_map]; exact h.len, fun k x hx => ?_⟩
  · have := h.sorted
    unfold ASorted stripM at *
    rw [List.pairwise_map]
    exact this
  · obtain ⟨x, hx, hk⟩ := kindM_some h.root
    unfold kindM
    rw [stripM_get, hx]
    exact hk
  · obtain ⟨y, hy, rfl⟩ := hget k x hx
    have o := h.each k y hy
    refine ⟨o.kind, fun h1 => ?_, o.dir, o.gone, ?_, fun e he => o.good e (List.mem_filter.1 he).1, o.size, o.links, o.til⟩
    · unfold stripI
      simp only
      rw [o.file h1]; rfl
    · exact List.Pairwise.filter _ o.sorted
  · obtain ⟨y, hy, rfl⟩ := hget k x hx
    have := h.leads k y hy e (List.mem_filter.1 he).1
    refine ⟨?_, this.2⟩
    rw [stripM_get]
    obtain ⟨z, hz⟩ := Option.isSome_iff_exists.1 this.1
    rw [hz]; rfl
  · obtain ⟨y, hy, rfl⟩ := hget k x hx
    exact h.ids k y hy
theorem Sub.strip (T : TrM) (id : Int) : Sub (stripM T id) T := fun d x hx => by
  rw [stripM_get] at hx
  cases hy : aget d T with
  | none => rw [hy] at hx; cases hx
  | some y =>
    rw [hy] at hx
    simp only [Option.map_some, Option.some.injEq] at hx
    subst hx
    exact ⟨y, rfl, rfl, fun e he => (List.mem_filter.1 he).1⟩
theorem dropE_zero {T : TrM} {id : Int} (h : dropE T id = 0) : ∃ x, aget id T = some x ∧ x.kind ≠ 2 ∧ x.closed = false := by
  unfold dropE at h
  cases hx : aget id T with
  | none => rw [hx] at h; cases h
  | some x =>
    rw [hx] at h
    simp only at h
    by_cases hk : x.kind = 2
    · rw [if_pos hk] at h; cases h
    · rw [if_neg hk] at h
      cases hc : x.closed with
      | true => rw [hc] at h; cases h
      | false => exact ⟨x, rfl, hk, hc⟩
theorem OkM.dropM {T : TrM} (h : OkM T) (id : Int) : OkM (dropM T id).2 := by
  unfold Go.Proofs.YtmabllemjkcobaaGreatDoor.dropM
  by_cases he : dropE T id = 0
  · simp only [if_pos he]
    obtain ⟨x, hx, hk, _⟩ := dropE_zero he
    have h0 := h.file_ne hx hk
    have hnil := (h.each id x hx).file ((h.each id x hx).kind.resolve_right hk)
    have hS := h.toOkP.strip id
    have hx' : aget id (stripM T id) = some (stripI id x) := by rw [stripM_get, hx]; rfl
    have hn' : (stripI id x).names = [] := by unfold stripI; simp only; rw [hnil]; rfl
    rw [dropOk_eq]
    refine ⟨hS.del hx' h0 (by rw [cntM_strip, if_pos rfl]), fun j y hy hj => ?_⟩
    have hji : j ≠ id := fun e => by subst e; rw [aget_adel_same] at hy; cases hy
    rw [aget_adel, if_neg hji, stripM_get] at hy
    cases hz : aget j T with
    | none => rw [hz] at hy; cases hy
    | some z =>
      rw [hz] at hy
      simp only [Option.map_some, Option.some.injEq] at hy
      have h1 := cntM_adel hS.sorted hx' j
      have h2 : cn j (stripI id x) = 0 := by unfold cn; rw [hn']; rfl
      have h3 := cntM_strip T id j
      rw [if_neg hji] at h3
      have h4 := h.counts j z hz hj
      have h5 : y.links = z.links := by rw [← hy]; rfl
      omega
  · simp only [if_neg he]; exact h
theorem Okay.dropM {T : TrM} (h : Okay T) (id : Int) : Okay (dropM T id).2 := by
  obtain ⟨h1, dep, h2⟩ := h
  refine ⟨h1.dropM id, dep, ?_⟩
  unfold Go.Proofs.YtmabllemjkcobaaGreatDoor.dropM
  simp only
  split
  · rw [dropOk_eq]
    exact h2.sub ((Sub.del _).trans (Sub.strip _ _))
  · exact h2
theorem renameE_zero {T : TrM} {p tq : List Nm} (h : renameE T p tq = 0) : fine2 p tq = 0 ∧ (lookM T 0 p).2 = 0 ∧ (lookM T 0 p).1 ≠ 0 ∧ (placeM T tq).2.2 = 0 ∧ (kindM T (lookM T 0 p).1 = 2 → withinL tq p = false) ∧ (aget (placeM T tq).2.1 (namesM T (placeM T tq).1) = none → tq.length + deepM T 8 (lookM T 0 p).1 ≤ 8) := by
  unfold renameE at h
  by_cases h1 : fine2 p tq ≠ 0
  · rw [if_pos h1] at h; exact absurd h h1
  · rw [if_neg h1] at h
    by_cases h2 : (lookM T 0 p).2 ≠ 0
    · rw [if_pos h2] at h; exact absurd h h2
    · rw [if_neg h2] at h
      by_cases h3 : (lookM T 0 p).1 = 0
      · rw [if_pos h3] at h; cases h
      · rw [if_neg h3] at h
        by_cases h4 : (placeM T tq).2.2 ≠ 0
        · rw [if_pos h4] at h; exact absurd h h4
        · rw [if_neg h4] at h
          by_cases h5 : kindM T (lookM T 0 p).1 = 2 ∧ withinL tq p = true
          · rw [if_pos h5] at h; cases h
          · rw [if_neg h5] at h
            refine ⟨by omega, by omega, h3, by omega, fun h6 => ?_, fun h6 => ?_⟩
            · cases hw : withinL tq p with
              | false => rfl
              | true => exact absurd ⟨h6, hw⟩ h5
            · rw [h6] at h
              simp only at h
              split at h
              · cases h
              · omega
theorem Okay.renameM {T : TrM} (h : Okay T) (p tq : List Nm) : Okay (renameM T p tq).2 := by
  unfold Go.Proofs.YtmabllemjkcobaaGreatDoor.renameM
  simp only
  by_cases hc : renameE T p tq = 0 ∧ (aget (placeM T tq).2.1 (namesM T (placeM T tq).1)).isSome = false
  · rw [if_pos hc]
    obtain ⟨h1, dep, h2⟩ := h
    obtain ⟨a1, a2, a3, a4, a5, a6⟩ := renameE_zero hc.1
    have hn : aget (placeM T tq).2.1 (namesM T (placeM T tq).1) = none := by simpa using hc.2
    have hlk : lookM T 0 p = ((lookM T 0 p).1, 0) := Prod.ext rfl a2
    have hpl : placeM T tq = ((placeM T tq).1, (placeM T tq).2.1, 0) := Prod.ext rfl (Prod.ext rfl a4)
    obtain ⟨x2, hx2, hk2, hm2⟩ := placeM_spec h1 a4
    have hpn : p ≠ [] := fun e => a3 (by rw [e]; rfl)
    obtain ⟨d1, x1, n1, e1, hl1, hx1, hk1, hn1, _, ep⟩ := place_of_look hlk hpn
    have hf := fine2_zero a1
    unfold renameOk
    refine ⟨?_, h2.move h1 hlk a3 hpl (fineL_len hf.2) fun hk => ⟨a5 hk, a6 hn⟩⟩
    rw [e1]
    rw [namesM_of hx2] at hn
    exact h1.move hx1 hk1 hn1 hx2 hk2 (fineL_good hf.2 _ hm2) hn
  · rw [if_neg hc]; exact h
end Go.Proofs.YtmabllemjkcobaaGreatDoor
