/- What is renamed, and renamed back, plainly. TreeMoves: the walk. -/
import Derived.Test.YtbapdoicejakhaaGreatM43
import Derived.Test.YtbapdoicejakhaaGreatM46
namespace Go.Proofs.YtbapdoicejakhaaGreat
open Go.ChangeShapes Go.WideShapes Go.ChangeAt Go.RowKit
set_option linter.unusedVariables false
set_option linter.unusedSimpArgs false

theorem look_cons_of {T : TrM} {a k d : Int} {n : Nm} {r : List Nm} (hk : kindM T a = 2) (hn : aget n (namesM T a) = some k) (h : lookM T k r = (d, 0)) : lookM T a (n :: r) = (d, 0) := by
  obtain ⟨x, hx, hxk⟩ := kindM_some hk
  rw [namesM_of hx] at hn
  unfold lookM
  rw [hx]
  simp only
  rw [if_pos hxk, hn]
  exact h
theorem look_cons_to {T : TrM} {a d : Int} {n : Nm} {r : List Nm} (h : lookM T a (n :: r) = (d, 0)) : ∃ k, kindM T a = 2 ∧ aget n (namesM T a) = some k ∧ lookM T k r = (d, 0) := by
  obtain ⟨x, k, hx, hk, hn, hl⟩ := look_cons h
  exact ⟨k, (kindM_of hx).trans hk, by rw [namesM_of hx]; exact hn, hl⟩
/-- A path that does not go by one name leads where it led. -/
theorem look_over {T T' : TrM} {dx : Int} {nx : Nm} (h : ∀ a m k, ¬ (a = dx ∧ m = nx) → aget m (namesM T a) = some k → aget m (namesM T' a) = some k) (hk : ∀ a, kindM T' a = kindM T a) : ∀ (s : List Nm) (a d : Int), lookM T a s = (d, 0) → (∀ s1 s2, s = s1 ++ nx :: s2 → lookM T a s1 ≠ (dx, 0)) → lookM T' a s = (d, 0)
  | [], a, d, hl, _ => hl
  | n :: r, a, d, hl, hn => by
    obtain ⟨k, hka, hna, hr⟩ := look_cons_to hl
    refine look_cons_of ((hk a).trans hka) (h a n k (fun he => ?_) hna) (look_over h hk r k d hr fun s1 s2 he hl1 => ?_)
    · exact hn [] r (by rw [he.2]; rfl) (by rw [he.1]; rfl)
    · exact hn (n :: s1) s2 (by rw [he]; rfl) (look_cons_of hka hna hl1)
/-- What moved, as its parts. -/
structure Moved (T : TrM) (p tq : List Nm) (id d1 d2 : Int) (n1 n2 : Nm) (x1 x2 : ItM) : Prop where
  f : fine2 p tq = 0
  lp : lookM T 0 p = (id, 0)
  id0 : id ≠ 0
  ep : p = p.dropLast ++ [n1]
  l1 : lookM T 0 p.dropLast = (d1, 0)
  g1 : aget d1 T = some x1
  k1 : x1.kind = 2
  m1 : aget n1 x1.names = some id
  et : tq = tq.dropLast ++ [n2]
  l2 : lookM T 0 tq.dropLast = (d2, 0)
  g2 : aget d2 T = some x2
  k2 : x2.kind = 2
  m2 : aget n2 x2.names = none
  w : kindM T id = 2 → withinL tq p = false
  is : (renameM T p tq).2 = setName (cutName T d1 n1) d2 n2 id
theorem place_et {T : TrM} {tq : List Nm} {d : Int} {n : Nm} (h : placeM T tq = (d, n, 0)) : tq = tq.dropLast ++ [n] := by
  obtain ⟨htn, hl2, hk⟩ := place_look h
  have h1 : n = tq.getLastD [] := by
    unfold placeM at h
    rw [if_neg htn, hl2] at h
    simp only [ne_eq, not_true_eq_false, if_false] at h
    rw [if_pos hk] at h
    exact (congrArg (·.2.1) h).symm
  rw [h1, List.getLastD_eq_getLast?, List.getLast?_eq_some_getLast htn]
  exact (List.dropLast_concat_getLast htn).symm
theorem moved_of {T : TrM} (hT : OkM T) {p tq : List Nm} (h0 : renameE T p tq = 0) (hn : (aget (placeM T tq).2.1 (namesM T (placeM T tq).1)).isSome = false) : ∃ id d1 d2 n1 n2 x1 x2, Moved T p tq id d1 d2 n1 n2 x1 x2 := by
  obtain ⟨a1, a2, a3, a4, a5, a6⟩ := renameE_zero h0
  have hn' : aget (placeM T tq).2.1 (namesM T (placeM T tq).1) = none := by simpa using hn
  have hlk : lookM T 0 p = ((lookM T 0 p).1, 0) := Prod.ext rfl a2
  have hpl : placeM T tq = ((placeM T tq).1, (placeM T tq).2.1, 0) := Prod.ext rfl (Prod.ext rfl a4)
  obtain ⟨x2, hx2, hk2, hm2⟩ := placeM_spec hT a4
  have hpn : p ≠ [] := fun e => a3 (by rw [e]; rfl)
  obtain ⟨d1, x1, n1, e1, hl1, hx1, hk1, hn1, _, ep⟩ := place_of_look hlk hpn
  obtain ⟨htn, hl2, _⟩ := place_look hpl
  have het : tq = tq.dropLast ++ [(placeM T tq).2.1] := place_et hpl
  refine ⟨(lookM T 0 p).1, d1, (placeM T tq).1, n1, (placeM T tq).2.1, x1, x2, a1, hlk, a3, ep, hl1, hx1, hk1, hn1, het, hl2, hx2, hk2, by rw [namesM_of hx2] at hn'; exact hn', a5, ?_⟩
  unfold renameM
  simp only
  rw [if_pos ⟨h0, hn⟩]
  unfold renameOk
  rw [e1]
theorem namesM_amod {T : TrM} {d : Int} {f : ItM → ItM} {g : List (Nm × Int) → List (Nm × Int)} (hf : ∀ x, (f x).names = g x.names) (hg : (aget d T).isSome = true) (a : Int) : namesM (amod d f T) a = if a = d then g (namesM T a) else namesM T a := by
  unfold namesM
  rw [aget_amod]
  by_cases h : a = d
  · subst h
    rw [if_pos rfl, if_pos rfl]
    obtain ⟨x, hx⟩ := Option.isSome_iff_exists.1 hg
    rw [hx]
    exact hf x
  · rw [if_neg h, if_neg h]
section
variable {T : TrM} {p tq : List Nm} {id d1 d2 : Int} {n1 n2 : Nm} {x1 x2 : ItM}
theorem Moved.apart (h : Moved T p tq id d1 d2 n1 n2 x1 x2) : ¬ (d1 = d2 ∧ n1 = n2) := fun he => by
  have h1 := h.g1
  rw [he.1, h.g2] at h1
  have h2 := h.m1
  rw [← Option.some.inj h1, he.2, h.m2] at h2
  cases h2
/-- The names behind it. -/
theorem Moved.names (h : Moved T p tq id d1 d2 n1 n2 x1 x2) (a : Int) (m : Nm) : aget m (namesM (setName (cutName T d1 n1) d2 n2 id) a) = if a = d2 ∧ m = n2 then some id else if a = d1 ∧ m = n1 then none else aget m (namesM T a) := by
  have i1 : (aget d1 T).isSome = true := by rw [h.g1]; rfl
  have i2 : (aget d2 (cutName T d1 n1)).isSome = true := by
    unfold cutName
    rw [aget_amod]
    split <;> simp [h.g2]
  unfold setName
  rw [namesM_amod (g := fun l => aput bytesBefore n2 id l) (fun _ => rfl) i2]
  unfold cutName
  rw [namesM_amod (g := fun l => adel n1 l) (fun _ => rfl) i1]
  by_cases ha : a = d2
  · rw [if_pos ha, aget_aput]
    by_cases hm : m = n2
    · rw [if_pos hm, if_pos ⟨ha, hm⟩]
    · rw [if_neg hm, if_neg (show ¬ (a = d2 ∧ m = n2) from fun e => hm e.2)]
      by_cases hb : a = d1
      · by_cases hm1 : m = n1
        · rw [if_pos (show a = d1 ∧ m = n1 from ⟨hb, hm1⟩), if_pos hb, hm1, aget_adel_same]
        · rw [if_neg (show ¬ (a = d1 ∧ m = n1) from fun e => hm1 e.2), if_pos hb, aget_adel, if_neg hm1]
      · rw [if_neg (show ¬ (a = d1 ∧ m = n1) from fun e => hb e.1), if_neg hb]
  · rw [if_neg ha, if_neg (show ¬ (a = d2 ∧ m = n2) from fun e => ha e.1)]
    by_cases hb : a = d1
    · by_cases hm1 : m = n1
      · rw [if_pos (show a = d1 ∧ m = n1 from ⟨hb, hm1⟩), if_pos hb, hm1, aget_adel_same]
      · rw [if_neg (show ¬ (a = d1 ∧ m = n1) from fun e => hm1 e.2), if_pos hb, aget_adel, if_neg hm1]
    · rw [if_neg (show ¬ (a = d1 ∧ m = n1) from fun e => hb e.1), if_neg hb]
theorem Moved.over (h : Moved T p tq id d1 d2 n1 n2 x1 x2) : ∀ a m k, ¬ (a = d1 ∧ m = n1) → aget m (namesM T a) = some k → aget m (namesM (setName (cutName T d1 n1) d2 n2 id) a) = some k := fun a m k hne hm => by
  rw [h.names]
  have h2 : ¬ (a = d2 ∧ m = n2) := fun e => by
    rw [e.1, e.2, namesM_of h.g2, h.m2] at hm
    cases hm
  rw [if_neg h2, if_neg hne]
  exact hm
theorem file_end {T : TrM} {a d : Int} {q : List Nm} (hk : kindM T a ≠ 2) (h : lookM T a q = (d, 0)) : q = [] ∧ a = d := by
  cases q with
  | nil => exact ⟨rfl, congrArg Prod.fst h⟩
  | cons n r =>
    obtain ⟨k, hka, _⟩ := look_cons_to h
    exact absurd hka hk
theorem Moved.not1 (h : Moved T p tq id d1 d2 n1 n2 x1 x2) (hT : OkM T) : ¬ Desc T id d1 := by
  rintro ⟨q, hq⟩
  have h3 : lookM T 0 (p ++ q) = (d1, 0) := by rw [lookM_append, h.lp]; simp only [if_pos]; exact hq
  have h4 := one_path hT _ _ _ d1 (Nat.le_refl _) h.l1 h3 ((kindM_of h.g1).trans h.k1)
  have h5 := congrArg List.length h4
  have h6 := congrArg List.length h.ep
  rw [List.length_append] at h5 h6
  rw [List.length_dropLast] at h5 h6
  simp only [List.length_cons, List.length_nil] at h6
  omega
theorem Moved.not2 (h : Moved T p tq id d1 d2 n1 n2 x1 x2) (hT : OkM T) : ¬ Desc T id d2 := by
  rintro ⟨q, hq⟩
  by_cases hk : kindM T id = 2
  · have hw := h.w hk
    have h3 : lookM T 0 (p ++ q) = (d2, 0) := by rw [lookM_append, h.lp]; simp only [if_pos]; exact hq
    have h4 := one_path hT _ _ _ d2 (Nat.le_refl _) h.l2 h3 ((kindM_of h.g2).trans h.k2)
    have h5 : tq.take p.length = p := by
      rw [h.et, h4, List.append_assoc, List.take_left]
    unfold withinL at hw
    rw [h5] at hw
    simp at hw
  · obtain ⟨_, he⟩ := file_end hk hq
    exact hk (by rw [he]; exact (kindM_of h.g2).trans h.k2)
theorem Moved.kinds (h : Moved T p tq id d1 d2 n1 n2 x1 x2) (a : Int) : kindM (setName (cutName T d1 n1) d2 n2 id) a = kindM T a := kind_move a
theorem Moved.dir2 (h : Moved T p tq id d1 d2 n1 n2 x1 x2) (hT : OkM T) : lookM (setName (cutName T d1 n1) d2 n2 id) 0 tq.dropLast = (d2, 0) := by
  refine look_over h.over h.kinds _ _ _ h.l2 fun s1 s2 he hl => ?_
  refine h.not2 hT ⟨s2, ?_⟩
  have h1 := h.l2
  rw [he, lookM_append, hl] at h1
  simp only [if_pos] at h1
  obtain ⟨k, _, hn, hr⟩ := look_cons_to h1
  rw [namesM_of h.g1, h.m1] at hn
  rw [← Option.some.inj hn] at hr
  exact hr
theorem Moved.dir1 (h : Moved T p tq id d1 d2 n1 n2 x1 x2) (hT : OkM T) : lookM (setName (cutName T d1 n1) d2 n2 id) 0 p.dropLast = (d1, 0) := by
  refine look_over h.over h.kinds _ _ _ h.l1 fun s1 s2 he hl => ?_
  refine h.not1 hT ⟨s2, ?_⟩
  have h1 := h.l1
  rw [he, lookM_append, hl] at h1
  simp only [if_pos] at h1
  obtain ⟨k, _, hn, hr⟩ := look_cons_to h1
  rw [namesM_of h.g1, h.m1] at hn
  rw [← Option.some.inj hn] at hr
  exact hr
/-- It is found at the other place. -/
theorem Moved.there (h : Moved T p tq id d1 d2 n1 n2 x1 x2) (hT : OkM T) : lookM (setName (cutName T d1 n1) d2 n2 id) 0 tq = (id, 0) := by
  rw [h.et, lookM_append, h.dir2 hT]
  simp only [if_pos]
  refine look_cons_of ((h.kinds d2).trans ((kindM_of h.g2).trans h.k2)) ?_ rfl
  rw [h.names, if_pos ⟨rfl, rfl⟩]
/-- .. and no more at its own. -/
theorem Moved.off (h : Moved T p tq id d1 d2 n1 n2 x1 x2) (hT : OkM T) : (lookE (setName (cutName T d1 n1) d2 n2 id) p).2 ≠ 0 := by
  unfold lookE
  rw [if_neg (by simp [(fine2_zero h.f).1])]
  intro h0
  have h1 : lookM (setName (cutName T d1 n1) d2 n2 id) 0 p = ((lookM (setName (cutName T d1 n1) d2 n2 id) 0 p).1, 0) := Prod.ext rfl h0
  generalize (lookM (setName (cutName T d1 n1) d2 n2 id) 0 p).1 = z at h1
  rw [h.ep, lookM_append, h.dir1 hT] at h1
  simp only [if_pos] at h1
  obtain ⟨k, _, hn, _⟩ := look_cons_to h1
  rw [h.names, if_neg (fun e => h.apart e), if_pos ⟨rfl, rfl⟩] at hn
  cases hn
theorem deep_same (h : Moved T p tq id d1 d2 n1 n2 x1 x2) (hT : OkM T) : ∀ (n : Nat) (a : Int), Desc T id a → deepM (setName (cutName T d1 n1) d2 n2 id) n a = deepM T n a
  | 0, _, _ => rfl
  | n + 1, a, ha => by
    have i1 : (aget d1 T).isSome = true := by rw [h.g1]; rfl
    have i2 : (aget d2 (cutName T d1 n1)).isSome = true := by
      unfold cutName
      rw [aget_amod]
      split <;> simp [h.g2]
    have e1 : namesM (setName (cutName T d1 n1) d2 n2 id) a = namesM T a := by
      unfold setName
      rw [namesM_amod (g := fun l => aput bytesBefore n2 id l) (fun _ => rfl) i2, if_neg (show ¬ a = d2 from fun e => h.not2 hT (by rw [← e]; exact ha))]
      unfold cutName
      rw [namesM_amod (g := fun l => adel n1 l) (fun _ => rfl) i1, if_neg (show ¬ a = d1 from fun e => h.not1 hT (by rw [← e]; exact ha))]
    show maxD _ (namesM (setName (cutName T d1 n1) d2 n2 id) a) = maxD _ (namesM T a)
    rw [e1]
    unfold maxD
    congr 1
    apply List.map_congr_left
    intro e he
    obtain ⟨q, hq⟩ := ha
    have hd : Desc T id e.2 := by
      refine ⟨q ++ [e.1], ?_⟩
      rw [lookM_append, hq]
      simp only [if_pos]
      obtain ⟨x, hx, hm⟩ := mem_namesM he
      exact look_cons_of ((kindM_of hx).trans (names_dir hT hx hm)) (by rw [namesM_of hx]; exact aget_of_mem bbLt (hT.each _ _ hx).sorted hm) rfl
    rw [deep_same h hT n e.2 hd]
theorem deep_le {dep : Int → Nat} (hT : OkM T) (hd : DepthOk T dep) : ∀ (n : Nat) (a : Int), (kindM T a = 2 → dep a + deepM T n a ≤ 8 ∨ deepM T n a = 0) ∧ (kindM T a ≠ 2 → deepM T n a = 0)
  | 0, a => ⟨fun _ => .inr rfl, fun _ => rfl⟩
  | n + 1, a => by
    constructor
    · intro hk
      by_cases hz : namesM T a = []
      · right
        show maxD _ (namesM T a) = 0
        rw [hz]; rfl
      · left
        have hlt : dep a < 8 := by
          obtain ⟨e, r, he⟩ := List.exists_cons_of_ne_nil hz
          obtain ⟨x, hx, hm⟩ := mem_namesM (T := T) (id := a) (e := e) (by rw [he]; simp)
          exact (hd.up a x hx e hm).1
        have : maxD (deepM T n) (namesM T a) ≤ 8 - dep a := maxD_le _ fun e he => by
          obtain ⟨x, hx, hm⟩ := mem_namesM he
          have hu := hd.up a x hx e hm
          obtain ⟨i1, i2⟩ := deep_le hT hd n e.2
          by_cases hke : kindM T e.2 = 2
          · have h2 := hu.2 hke
            rcases i1 hke with h3 | h3 <;> omega
          · rw [i2 hke]; omega
        show dep a + maxD (deepM T n) (namesM T a) ≤ 8
        omega
    · intro hk
      have hz : namesM T a = [] := by
        unfold namesM
        cases hx : aget a T with
        | none => rfl
        | some x =>
          rw [kindM_of hx] at hk
          exact (hT.each a x hx).file ((hT.each a x hx).kind.resolve_right hk)
      show maxD _ (namesM T a) = 0
      rw [hz]; rfl
/-- Renamed back it may be. -/
theorem Moved.back (h : Moved T p tq id d1 d2 n1 n2 x1 x2) (hO : Okay T) : renameE (setName (cutName T d1 n1) d2 n2 id) tq p = 0 ∧ placeM (setName (cutName T d1 n1) d2 n2 id) p = (d1, n1, 0) ∧ aget n1 (namesM (setName (cutName T d1 n1) d2 n2 id) d1) = none := by
  obtain ⟨hT, dep, hd⟩ := hO
  obtain ⟨hf1, hf2⟩ := fine2_zero h.f
  have hpn : p ≠ [] := fun e => by
    have := congrArg List.length h.ep
    rw [e] at this
    simp at this
  have hpl : placeM (setName (cutName T d1 n1) d2 n2 id) p = (d1, n1, 0) := by
    unfold placeM
    rw [if_neg hpn, h.dir1 hT]
    simp only [ne_eq, not_true_eq_false, if_false]
    rw [if_pos ((h.kinds d1).trans ((kindM_of h.g1).trans h.k1))]
    have : p.getLastD [] = n1 := by
      have hx := h.ep
      rw [hx]
      simp [List.getLastD_eq_getLast?]
    rw [this]
  have hno : aget n1 (namesM (setName (cutName T d1 n1) d2 n2 id) d1) = none := by
    rw [h.names, if_neg (fun e => h.apart e), if_pos ⟨rfl, rfl⟩]
  refine ⟨?_, hpl, hno⟩
  unfold renameE
  have hff : fine2 tq p = 0 := by
    unfold fine2
    rw [if_neg (by simp [hf2])]
    exact hf1
  rw [if_neg (by simp [hff]), h.there hT, hpl]
  simp only [ne_eq, not_true_eq_false, if_false]
  rw [if_neg h.id0]
  have hw : withinL p tq = false := by
    unfold withinL
    rw [decide_eq_false_iff_not]
    intro ht
    by_cases hlen : p.length ≤ tq.length
    · rw [List.take_of_length_le hlen] at ht
      refine h.apart ?_
      have h1 := h.l1
      have e1 := h.ep
      rw [ht, h.l2] at h1
      have e2 := h.et
      rw [ht] at e1
      have e3 := e1.symm.trans e2
      have e4 := List.append_cancel_left e3
      simp only [List.cons.injEq, and_true] at e4
      exact ⟨(congrArg Prod.fst h1).symm, e4⟩
    · obtain ⟨s, hs⟩ : ∃ s, p = tq ++ s := ⟨p.drop tq.length, by conv => lhs; rw [← List.take_append_drop tq.length p, ht]⟩
      have hsn : s ≠ [] := fun e => by rw [e, List.append_nil] at hs; rw [hs] at hlen; exact hlen (Nat.le_refl _)
      have h1 := h.l1
      rw [hs, List.dropLast_append_of_ne_nil hsn, lookM_append] at h1
      have h2 : lookM T 0 tq = (0, 20) := by
        rw [h.et, lookM_append, h.l2]
        simp only [if_pos]
        simp only [lookM, h.g2, if_pos h.k2, h.m2]
      rw [h2] at h1
      simp at h1
  rw [hw]
  simp only [Bool.false_eq_true, and_false, if_false]
  rw [hno]
  simp only
  rw [deep_same h hT 8 id ⟨[], rfl⟩]
  obtain ⟨i1, i2⟩ := deep_le hT hd 8 id
  have hl8 := fineL_len hf1
  rw [if_neg]
  by_cases hk : kindM T id = 2
  · have h3 := dep_look hd p 0 id h.lp hk
    rw [hd.zero] at h3
    rcases i1 hk with h4 | h4 <;> omega
  · rw [i2 hk]; omega
/-- .. and it is what it was. -/
theorem Moved.again (h : Moved T p tq id d1 d2 n1 n2 x1 x2) (hT : OkM T) : setName (cutName (setName (cutName T d1 n1) d2 n2 id) d2 n2) d1 n1 id = T := by
  unfold setName cutName amod
  rw [List.map_map, List.map_map, List.map_map]
  conv => rhs; rw [← List.map_id T]
  apply List.map_congr_left
  rintro ⟨a, y⟩ hq
  have hy := aget_of_mem iltLaws hT.sorted hq
  simp only at hy
  have hs := (hT.each a y hy).sorted
  simp only [Function.comp]
  by_cases ha : a = d1
  · have hyx : y = x1 := by rw [ha, h.g1] at hy; exact (Option.some.inj hy).symm
    by_cases hb : a = d2
    · have hyx2 : y = x2 := by rw [hb, h.g2] at hy; exact (Option.some.inj hy).symm
      simp only [if_pos ha, if_pos hb]
      have e : aput bytesBefore n1 id (adel n2 (aput bytesBefore n2 id (adel n1 y.names))) = y.names := by
        refine asorted_ext bbLt (((((hs.adel n1).aput bbLt n2 id)).adel n2).aput bbLt n1 id) hs fun k => ?_
        rw [aget_aput, aget_adel, aget_aput, aget_adel]
        by_cases e1 : k = n1
        · rw [if_pos e1, e1, hyx, h.m1]
        · rw [if_neg e1]
          by_cases e2 : k = n2
          · rw [if_pos e2, e2, hyx2, h.m2]
          · rw [if_neg e2, if_neg e2, if_neg e1]
      rw [e]; rfl
    · simp only [if_pos ha, if_neg hb]
      have e : aput bytesBefore n1 id (adel n1 y.names) = y.names := by
        refine asorted_ext bbLt ((hs.adel n1).aput bbLt n1 id) hs fun k => ?_
        rw [aget_aput, aget_adel]
        by_cases e1 : k = n1
        · rw [if_pos e1, e1, hyx, h.m1]
        · rw [if_neg e1, if_neg e1]
      rw [e]; rfl
  · by_cases hb : a = d2
    · have hyx2 : y = x2 := by rw [hb, h.g2] at hy; exact (Option.some.inj hy).symm
      simp only [if_neg ha, if_pos hb]
      have e : adel n2 (aput bytesBefore n2 id y.names) = y.names := by
        refine asorted_ext bbLt ((hs.aput bbLt n2 id).adel n2) hs fun k => ?_
        rw [aget_adel, aget_aput]
        by_cases e2 : k = n2
        · rw [if_pos e2, e2, hyx2, h.m2]
        · rw [if_neg e2, if_neg e2]
      rw [e]; rfl
    · simp only [if_neg ha, if_neg hb]; rfl
theorem Moved.twice (h : Moved T p tq id d1 d2 n1 n2 x1 x2) (hO : Okay T) : (renameM (renameM T p tq).2 tq p) = (0, T) := by
  obtain ⟨h1, h2, h3⟩ := h.back hO
  have hT := hO.1
  have hth := h.there hT
  rw [h.is]
  unfold renameM
  rw [h1, h2, h3]
  simp only [Option.isSome_none, and_self, if_true]
  refine Prod.ext rfl ?_
  show renameOk (setName (cutName T d1 n1) d2 n2 id) tq p = T
  unfold renameOk
  have htn : tq ≠ [] := fun e => by
    have := congrArg List.length h.et
    rw [e] at this
    simp at this
  have hpt : placeM (setName (cutName T d1 n1) d2 n2 id) tq = (d2, n2, 0) := by
    unfold placeM
    rw [if_neg htn, h.dir2 hT]
    simp only [ne_eq, not_true_eq_false, if_false]
    rw [if_pos ((h.kinds d2).trans ((kindM_of h.g2).trans h.k2))]
    have : tq.getLastD [] = n2 := by
      have hx := h.et
      rw [hx]
      simp [List.getLastD_eq_getLast?]
    rw [this]
  rw [h2, hpt, hth]
  exact h.again hT
end
theorem renameE_had {T : TrM} {p tq : List Nm} {k : Int} (h : renameE T p tq = 0) (hk : aget (placeM T tq).2.1 (namesM T (placeM T tq).1) = some k) : k = (lookM T 0 p).1 := by
  obtain ⟨a1, a2, a3, a4, a5, a6⟩ := renameE_zero h
  unfold renameE at h
  rw [if_neg (by simp [a1]), if_neg (by simp [a2]), if_neg a3, if_neg (by simp [a4]), if_neg (fun hh => by rw [a5 hh.1] at hh; exact absurd hh.2 (by decide)), hk] at h
  simp only at h
  by_cases he : k = (lookM T 0 p).1
  · exact he
  · rw [if_neg he] at h; cases h
theorem moves_spec {T : TrM} (hO : Okay T) {p tq : List Nm} (h0 : renameE T p tq = 0) : (lookE T p).2 = 0 ∧ lookE (renameM T p tq).2 tq = ((lookE T p).1, 0) ∧ ((renameM T p tq).2 ≠ T → (lookE (renameM T p tq).2 p).2 ≠ 0 ∧ renameM (renameM T p tq).2 tq p = (0, T)) := by
  obtain ⟨a1, a2, a3, a4, a5, a6⟩ := renameE_zero h0
  obtain ⟨f1, f2⟩ := fine2_zero a1
  have e1 : ∀ S, lookE S p = lookM S 0 p := fun S => by unfold lookE; rw [if_neg (by simp [f1])]
  have e2 : ∀ S, lookE S tq = lookM S 0 tq := fun S => by unfold lookE; rw [if_neg (by simp [f2])]
  rw [e1 T, e2]
  refine ⟨a2, ?_⟩
  cases hn : aget (placeM T tq).2.1 (namesM T (placeM T tq).1) with
  | some k =>
    have hk := renameE_had h0 hn
    have hs : (renameM T p tq).2 = T := by
      unfold renameM
      simp only
      rw [if_neg (fun hh => by rw [hn] at hh; exact absurd hh.2 (by simp))]
    rw [hs]
    refine ⟨?_, fun h => absurd rfl h⟩
    have hpl : placeM T tq = ((placeM T tq).1, (placeM T tq).2.1, 0) := Prod.ext rfl (Prod.ext rfl a4)
    obtain ⟨htn, hl2, hk2⟩ := place_look hpl
    rw [place_et hpl, lookM_append, hl2]
    simp only [if_pos]
    exact look_cons_of hk2 hn (by rw [hk]; rfl)
  | none =>
    obtain ⟨id, d1, d2, n1, n2, x1, x2, hm⟩ := moved_of hO.1 h0 (by rw [hn]; rfl)
    have h1 := hm.there hO.1
    have h2 := hm.off hO.1
    rw [← hm.is] at h1 h2
    rw [h1, hm.lp]
    exact ⟨rfl, fun _ => ⟨h2, hm.twice hO⟩⟩
end Go.Proofs.YtbapdoicejakhaaGreat
namespace Go.Proofs.YtbapdoicejakhaaGreat.treeMoves
open Go.ChangeShapes Go.WideShapes Go.ChangeAt Go.RowKit
set_option linter.unusedVariables false
set_option linter.unusedSimpArgs false

/-- Rows that a tree leaves alone. -/
structure RowsM (W : World) (P : Nat → Prop) (w : World) (a : Option Addr) (n : Nat) (p : List Nm) (b : Option Addr) (m : Nat) (q : List Nm) : Prop where
  p : StrsAt P w a n (p.map strOf)
  q : StrsAt P w b m (q.map strOf)
theorem RowsM.keep {W w w' : World} {P : Nat → Prop} {n m : Nat} {a b : Option Addr} {p q : List Nm} (h : RowsM W P w a n p b m q) (hk : Keeps (Wild W P) w w') : RowsM W P w' a n p b m q :=
  ⟨h.p.kept hk.size fun b hb hbw => hk.block b hbw fun hf => hf.2 hb, h.q.kept hk.size fun b hb hbw => hk.block b hbw fun hf => hf.2 hb⟩
theorem RowsM.grow {W w w' : World} {P : Nat → Prop} {n m : Nat} {a b : Option Addr} {p q : List Nm} (h : RowsM W P w a n p b m q) (hb : Below w.heap.size w w') : RowsM W P w' a n p b m q :=
  ⟨h.p.below hb (Nat.le_refl _), h.q.below hb (Nat.le_refl _)⟩
set_option maxRecDepth 100000 in
set_option maxHeartbeats 16000000 in
theorem walk {H : Type} {enc : TypeId × Value → H} (W : World) (base : Nat) (v0 : Value) (d0 : DataW H) (p0 : List MemPlace) (o0 : Value.okWide Tryz.prog W .any base 22 v0) (h0 : DataW.Trod enc Tryz.prog W 0 (fun _ => true) true 22 v0 d0 p0) (l0 : ∀ x ∈ p0, x.block < W.heap.size) (a1 : Int) (w1' : (Lit.int .i64 a1).wf = true) (a2 : Int) (w2' : (Lit.int .i64 a2).wf = true) (hsz : (DataW.weightsEach Tryz.prog [22, 3, 3] ([d0, .lit (.int .i64 a1), .lit (.int .i64 a2)] : List (DataW H))).all (· ≤ reachBytes) = true) :
    Calls Tryz.prog 11 #[v0, .int .i64 a1, .int .i64 a2] W (Fine W) := by
  obtain ⟨a, len, cap, rfl, hlc, hA⟩ : ∃ a len cap, v0 = .slice a len cap ∧ len ≤ cap ∧ AsksT W a len := by
    obtain ⟨a0, len, cap, rfl⟩ := okWide_slice Tryz.underlying22 o0
    obtain ⟨fuel, hf⟩ := h0
    refine open_asks11 hf l0 fun n hn => ?_
    have h1 := List.all_eq_true.1 hsz n (List.mem_append_left _ hn)
    simpa using h1
  have HPL := Lib.hid (played_any a len cap hA (Below.refl W.heap.size W))
  have HN1 := Lib.hid (fun w => names_any a1 w1' w)
  have HN2 := Lib.hid (fun w => names_any a2 w2' w)
  have hq1 := namesL_small a1
  have hq2 := namesL_small a2
  obtain ⟨p, hp⟩ : ∃ p, p = namesL a1 := ⟨_, rfl⟩
  obtain ⟨q, hq⟩ : ∃ q, q = namesL a2 := ⟨_, rfl⟩
  rw [← hp] at HN1 hq1
  rw [← hq] at HN2 hq2
  clear o0 h0 l0 hsz hlc hA w1' w2' hp hq
  go_enter Tryz.func11, Tryz.ntmps11
  go_wp2_with fail
  (with_reducible refine HPL.out.mono ?_)
  rintro e w1 ⟨t, r, rfl, T, ⟨P, F, hBP⟩, hb1⟩
  have HT1 := Lib.hid hBP.tree
  have HO := Lib.hid hBP.okay.1
  clear hBP hb1 HPL
  go_wp2_with fail
  (with_reducible refine (HN1.out _).mono ?_)
  rintro e w2 ⟨b1, k1, rfl, hk1, hs1, hb2⟩
  go_wp2_with fail
  (with_reducible refine (HN2.out _).mono ?_)
  rintro e w3 ⟨b2, k2, rfl, hk2, hs2, hb3⟩
  have hb13 : Below w1.heap.size w1 w3 := hb2.trans (hb3.mono hb2.size)
  have hz2 := hb2.size
  have hz3 := hb3.size
  have hT3 := HT1.out.shield hb13
  obtain ⟨P3, hP3⟩ : ∃ P3, P3 = fun x => P x ∨ (w1.heap.size ≤ x ∧ x < w3.heap.size) := ⟨_, rfl⟩
  rw [← hP3] at hT3
  have hR3 : RowsM W P3 w3 b1 p.length p b2 q.length q := by
    refine ⟨(hs1.below hb3 (Nat.le_refl _)).mono fun b hb => by rw [hP3]; exact .inr (by omega), hs2.mono fun b hb => by rw [hP3]; exact .inr (by omega)⟩
  have HSV := Lib.hid (in_save hT3)
  have HT3 := Lib.hid hT3
  have HR3 := Lib.hid hR3
  obtain ⟨sv, hsv⟩ : ∃ sv, sv = saveB T := ⟨_, rfl⟩
  rw [← hsv] at HSV
  have HSVE := Lib.hid hsv
  clear hs1 hs2 hb2 hb3 hb13 hz2 hz3 hT3 hR3 hsv HT1 HN1 HN2
  go_wp2_with fail
  (with_reducible refine HSV.out.mono ?_)
  rintro e w4 ⟨a4, n4, c4, rfl, hc4, hr4, hb4⟩
  have hcv := conv_row (c := c4) hr4
  have HT4 := Lib.hid (HT3.out.grow hb4)
  have HR4 := Lib.hid (HR3.out.grow hb4)
  have HLK := Lib.hid (in_look HT4.out b1 p.length k1 p HR4.out.p)
  obtain ⟨i0, e0, hie⟩ : ∃ i e, lookE T p = (i, e) := ⟨_, _, rfl⟩
  rw [hie] at HLK
  have HIE := Lib.hid hie
  clear hr4 hb4 hie HSV HT3 HR3
  go_wp2_with fail
  (with_reducible refine HLK.out.mono ?_)
  rintro e w5 ⟨rfl, hb5⟩
  have HT5 := Lib.hid (HT4.out.grow hb5)
  have HR5 := Lib.hid (HR4.out.grow hb5)
  have hrn := in_rename HT5.out HO.out b1 p.length k1 p b2 q.length k2 q HR5.out.p HR5.out.q hk1 (by omega) hk2 (by omega)
  have hok := HO.out.renameM p q
  have hE1 : (renameM T p q).1 = renameE T p q := rfl
  by_cases hre : renameE T p q = 0
  · obtain ⟨s1, s2, s3⟩ := moves_spec HO.out hre
    rw [HIE.out] at s1 s2
    simp only at s1 s2
    subst s1
    rw [hE1, hre] at hrn
    generalize (renameM T p q).2 = T1 at hrn hok s2 s3
    have HRN := Lib.hid hrn
    have HO1 := Lib.hid hok
    have HS2 := Lib.hid s2
    have HS3 := Lib.hid s3
    clear hb5 hrn hok hE1 hre s2 s3 HLK HT4 HR4 hcv
    go_wp2_with fail
    (with_reducible refine HRN.out.mono ?_)
    rintro e w6 ⟨rfl, hT6, hK6⟩
    have HT6 := Lib.hid hT6
    have HR6 := Lib.hid (HR5.out.keep hK6)
    have hlk := in_look hT6 b2 q.length k2 q HR6.out.q
    rw [HS2.out] at hlk
    have HLK := Lib.hid hlk
    clear hT6 hK6 hlk HRN HT5 HR5
    go_wp2_with fail
    (with_reducible refine HLK.out.mono ?_)
    rintro e w7 ⟨rfl, hb7⟩
    have HT7 := Lib.hid (HT6.out.grow hb7)
    have HR7 := Lib.hid (HR6.out.grow hb7)
    have HSV := Lib.hid (in_save HT7.out)
    clear hb7 HLK HT6 HR6
    by_cases hse : saveB T1 = sv
    · rw [hse] at HSV
      clear hse
      go_wp2_with fail
      (with_reducible refine HSV.out.mono ?_)
      rintro e w8 ⟨a8, n8, c8, rfl, hc8, hr8, hb8⟩
      have hcv := conv_row (c := c8) hr8
      have HB8 := Lib.hid (HT7.out.grow hb8).below
      clear hr8 hb8
      go_wp2_with fail
      (with_reducible refine (known11_any _).mono ?_)
      rintro e w9 ⟨rfl, hb9⟩
      have HB9 := Lib.hid (HB8.out.trans (hb9.mono HB8.out.size))
      clear hb9
      go_wp2_with fail
      go_ret
      exact ⟨rfl, HB9.out⟩
    · have hTn : T1 ≠ T := fun h => hse (by rw [h, HSVE.out])
      obtain ⟨hoff, htw⟩ := HS3.out hTn
      have hne := strOf_ne hse
      obtain ⟨i9, e9, hie9⟩ : ∃ i e, lookE T1 p = (i, e) := ⟨_, _, rfl⟩
      rw [hie9] at hoff
      simp only at hoff
      have HIE9 := Lib.hid hie9
      have HTW := Lib.hid htw
      have hd9 : (e9 == 0) = false := by simpa using hoff
      have hne1 := hne.1
      have hne2 := hne.2
      obtain ⟨s8, hs8⟩ : ∃ s8, s8 = saveB T1 := ⟨_, rfl⟩
      rw [← hs8] at hne1 hne2 HSV
      clear hse hTn hoff htw hne hie9 hs8 HS2 HS3
      go_wp2_with fail
      (with_reducible refine HSV.out.mono ?_)
      rintro e w8 ⟨a8, n8, c8, rfl, hc8, hr8, hb8⟩
      have hcv := conv_row (c := c8) hr8
      have HT8 := Lib.hid (HT7.out.grow hb8)
      have HR8 := Lib.hid (HR7.out.grow hb8)
      have hlk := in_look HT8.out b1 p.length k1 p HR8.out.p
      rw [HIE9.out] at hlk
      have HLK := Lib.hid hlk
      clear hr8 hb8 hlk HT7 HR7
      go_wp2_with fail
      (with_reducible refine HLK.out.mono ?_)
      rintro e w9 ⟨rfl, hb9⟩
      have HT9 := Lib.hid (HT8.out.grow hb9)
      have HR9 := Lib.hid (HR8.out.grow hb9)
      have HSD := Lib.hid (sound_any HT9.out HO1.out)
      clear hb9 hcv hne1 hne2 HLK HT8 HR8
      go_wp2_with fail
      (with_reducible refine HSD.out.mono ?_)
      rintro e wa ⟨rfl, hba⟩
      have HTa := Lib.hid (HT9.out.grow hba)
      have HRa := Lib.hid (HR9.out.grow hba)
      have hrn := in_rename HTa.out HO1.out b2 q.length k2 q b1 p.length k1 p HRa.out.q HRa.out.p hk2 (by omega) hk1 (by omega)
      rw [HTW.out] at hrn
      have HRN := Lib.hid hrn
      clear hba hrn HSD HT9 HR9
      go_wp2_with fail
      (with_reducible refine HRN.out.mono ?_)
      rintro e wb ⟨rfl, hTb, hKb⟩
      have HTb := Lib.hid hTb
      have hsv := in_save hTb
      rw [← HSVE.out] at hsv
      have HSV2 := Lib.hid hsv
      clear hTb hKb hsv HRN HTa HRa
      go_wp2_with fail
      (with_reducible refine HSV2.out.mono ?_)
      rintro e wc ⟨a9, n9, c9, rfl, hc9, hr9, hb9⟩
      have hcv := conv_row (c := c9) hr9
      have HBc := Lib.hid (HTb.out.grow hb9).below
      clear hr9 hb9 HTb
      go_wp2_with fail
      (with_reducible refine (known11_any _).mono ?_)
      rintro e wd ⟨rfl, hbd⟩
      have HBd := Lib.hid (HBc.out.trans (hbd.mono HBc.out.size))
      clear hbd
      go_wp2_with fail
      go_ret
      exact ⟨rfl, HBd.out⟩
  · have hsame := rename_same (T := T) (p := p) (q := q) (fun h => hre (hE1.symm.trans h))
    rw [hsame] at hrn
    rw [hE1] at hrn
    have hne : (renameE T p q != 0) = true := by simpa using hre
    generalize renameE T p q = E at hrn hne hre
    have HRN := Lib.hid hrn
    clear hb5 hrn hok hE1 hre hsame HLK HT4 HR4 hcv
    go_wp2_with fail
    (with_reducible refine HRN.out.mono ?_)
    rintro e w6 ⟨rfl, hT6, hK6⟩
    have HT6 := Lib.hid hT6
    have hsv := in_save hT6
    rw [← HSVE.out] at hsv
    have HSV2 := Lib.hid hsv
    clear hT6 hK6 hsv HRN
    go_wp2_with fail
    (with_reducible refine HSV2.out.mono ?_)
    rintro e w7 ⟨a9, n9, c9, rfl, hc9, hr9, hb9⟩
    have hcv := conv_row (c := c9) hr9
    have HBc := Lib.hid (HT6.out.grow hb9).below
    clear hr9 hb9 HT6
    go_wp2_with fail
    (with_reducible refine (known11_any _).mono ?_)
    rintro e w8 ⟨rfl, hbd⟩
    have HBd := Lib.hid (HBc.out.trans (hbd.mono HBc.out.size))
    clear hbd
    go_wp2_with fail
    go_ret
    exact ⟨rfl, HBd.out⟩
end Go.Proofs.YtbapdoicejakhaaGreat.treeMoves
