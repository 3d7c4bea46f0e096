/- What holds of a tree, and how deep it is, whatever is done. -/
import Derived.Test.YtpgklnhkfgbpgaaGreatDoorM18
namespace Go.Proofs.YtpgklnhkfgbpgaaGreatDoor
open Go.ChangeShapes Go.WideShapes Go.ChangeAt Go.RowKit
set_option linter.unusedVariables false
set_option linter.unusedSimpArgs false

theorem place_look {T : TrM} {tq : List Nm} {dt : Int} {nt : Nm} (hto : placeM T tq = (dt, nt, 0)) : tq ≠ [] ∧ lookM T 0 tq.dropLast = (dt, 0) ∧ kindM T dt = 2 := by
  unfold placeM at hto
  by_cases ht0 : tq = []
  · rw [if_pos ht0] at hto; cases hto
  · rw [if_neg ht0] at hto
    by_cases ht1 : (lookM T 0 tq.dropLast).2 ≠ 0
    · rw [if_pos ht1] at hto
      exact absurd (congrArg (·.2.2) hto) ht1
    · rw [if_neg ht1] at hto
      by_cases ht2 : kindM T (lookM T 0 tq.dropLast).1 = 2
      · rw [if_pos ht2] at hto
        have h3 : (lookM T 0 tq.dropLast).1 = dt := congrArg Prod.fst hto
        exact ⟨ht0, Prod.ext h3 (by simpa using ht1), h3 ▸ ht2⟩
      · rw [if_neg ht2] at hto; cases hto
theorem DepthOk.place {T : TrM} {dep : Int → Nat} (h : DepthOk T dep) {tq : List Nm} {dt : Int} {nt : Nm} (hto : placeM T tq = (dt, nt, 0)) (hf : tq.length ≤ 8) : dep dt < 8 := by
  obtain ⟨h1, h2, h3⟩ := place_look hto
  have := dep_look h _ 0 dt h2 h3
  rw [h.zero, List.length_dropLast] at this
  have : tq.length ≠ 0 := fun e => h1 (List.eq_nil_of_length_eq_zero e)
  omega
/-- No names but those that were there. -/
def Sub (T' T : TrM) : Prop := ∀ d x, aget d T' = some x → ∃ y, aget d T = some y ∧ x.kind = y.kind ∧ ∀ e ∈ x.names, e ∈ y.names
theorem Sub.refl (T : TrM) : Sub T T := fun d x h => ⟨x, h, rfl, fun _ he => he⟩
theorem Sub.trans {A B C : TrM} (h : Sub A B) (k : Sub B C) : Sub A C := fun d x hx => by
  obtain ⟨y, hy, h1, h2⟩ := h d x hx
  obtain ⟨z, hz, h3, h4⟩ := k d y hy
  exact ⟨z, hz, h1.trans h3, fun e he => h4 e (h2 e he)⟩
theorem Sub.amod {T : TrM} {k : Int} {f : ItM → ItM} (h1 : ∀ x, (f x).kind = x.kind) (h2 : ∀ x, ∀ e ∈ (f x).names, e ∈ x.names) : Sub (Go.Proofs.YtpgklnhkfgbpgaaGreatDoor.amod k f T) T := fun d x hx => by
  rw [aget_amod] at hx
  by_cases hd : d = k
  · rw [if_pos hd] at hx
    cases hy : aget d T with
    | none => rw [hy] at hx; cases hx
    | some y =>
      rw [hy] at hx
      simp only [Option.map_some, Option.some.injEq] at hx
      exact ⟨y, rfl, by rw [← hx]; exact h1 y, fun e he => h2 y e (by rw [hx]; exact he)⟩
  · rw [if_neg hd] at hx; exact ⟨x, hx, rfl, fun _ he => he⟩
theorem Sub.del {T : TrM} (k : Int) : Sub (adel k T) T := fun d x hx => by
  rw [aget_adel] at hx
  split at hx
  · cases hx
  · exact ⟨x, hx, rfl, fun _ he => he⟩
theorem Sub.settle {T : TrM} (k : Int) : Sub (settleM T k) T := by
  unfold settleM
  cases aget k T with
  | none => exact Sub.refl T
  | some x =>
    simp only
    split
    · exact Sub.del k
    · exact Sub.refl T
theorem Sub.cut {T : TrM} (d : Int) (n : Nm) : Sub (cutName T d n) T := Sub.amod (fun _ => by exact rfl) fun x e he => (List.mem_filter.1 he).1
theorem DepthOk.sub {T T' : TrM} {dep : Int → Nat} (h : DepthOk T dep) (hs : Sub T' T) : DepthOk T' dep := by
  refine ⟨h.zero, fun d x hx e he => ?_⟩
  obtain ⟨y, hy, _, hn⟩ := hs d x hx
  have h1 := h.up d y hy e (hn e he)
  refine ⟨h1.1, fun hk => h1.2 ?_⟩
  obtain ⟨z, hz, hzk⟩ := kindM_some hk
  obtain ⟨u, hu, huk, _⟩ := hs _ z hz
  rw [kindM_of hu, ← huk]; exact hzk
/-- A name is set. -/
theorem names_set' {T : TrM} {d id a : Int} {n : Nm} {x : ItM} (h : aget a (setName T d n id) = some x) : ∃ y, aget a T = some y ∧ x.kind = y.kind ∧ ∀ e ∈ x.names, e ∈ y.names ∨ (a = d ∧ e = (n, id)) := by
  unfold setName at h
  rw [aget_amod] at h
  by_cases hd : a = d
  · rw [if_pos hd] at h
    cases hz : aget a T with
    | none => rw [hz] at h; cases h
    | some z =>
      rw [hz] at h
      simp only [Option.map_some, Option.some.injEq] at h
      refine ⟨z, rfl, by rw [← h], fun e he => ?_⟩
      rw [← h] at he
      rcases (mem_ains bytesBefore).1 he with h2 | h2
      · exact .inr ⟨hd, h2⟩
      · exact .inl (List.mem_filter.1 h2).1
  · rw [if_neg hd] at h; exact ⟨x, h, rfl, fun e he => .inl he⟩
theorem kind_set {T : TrM} {d id : Int} {n : Nm} (k : Int) : kindM (setName T d n id) k = kindM T k := by
  unfold setName
  exact kind_amod (fun _ => by exact rfl) k
theorem DepthOk.link {T : TrM} {dep : Int → Nat} (h : DepthOk T dep) {d id : Int} {n : Nm} (hd : dep d < 8) (hk : kindM T id ≠ 2) : DepthOk (setName T d n id) dep := by
  refine ⟨h.zero, fun a x hx e he => ?_⟩
  rw [kind_set]
  obtain ⟨y, hy, _, hn⟩ := names_set' hx
  rcases hn e he with h1 | ⟨h1, h2⟩
  · exact h.up a y hy e h1
  · subst h1 h2
    exact ⟨hd, fun h3 => absurd h3 hk⟩
theorem DepthOk.make {T : TrM} {dep : Int → Nat} (h : DepthOk T dep) (hT : OkM T) {d f kind : Int} {n : Nm} (hd : dep d < 8) (hf : aget f T = none) (hf0 : f ≠ 0) (hdt : (aget d T).isSome = true) : ∃ dep', DepthOk (setName (aput ilt f (freshM kind) T) d n f) dep' := by
  refine ⟨fun k => if k = f then dep d + 1 else dep k, by simp only [if_neg (Ne.symm hf0), h.zero], fun a x hx e he => ?_⟩
  have hdf : d ≠ f := fun e => by rw [e, hf] at hdt; cases hdt
  obtain ⟨y, hy, _, hn⟩ := names_set' hx
  rw [kind_set]
  rcases mem_aput hT.sorted hy with ⟨h1, h2⟩ | ⟨h1, h2⟩
  · rcases hn e he with h3 | ⟨h3, h4⟩
    · rw [h2] at h3; cases h3
    · exact absurd (h3.symm.trans h1) hdf
  · rcases hn e he with h3 | ⟨h3, h4⟩
    · have hup := h.up a y h2 e h3
      have hl := (hT.leads a y h2 e h3).1
      have hef : e.2 ≠ f := fun e5 => by rw [e5, hf] at hl; cases hl
      simp only [if_neg h1, if_neg hef]
      have : kindM (aput ilt f (freshM kind) T) e.2 = kindM T e.2 := by unfold kindM; rw [aget_aput, if_neg hef]
      rw [this]
      exact hup
    · subst h3 h4
      simp only [if_neg h1, if_pos]
      exact ⟨hd, fun _ => trivial⟩

/-- What holds of each tree: its counts, and that it is not too deep. -/
def Okay (T : TrM) : Prop := OkM T ∧ ∃ dep, DepthOk T dep
theorem Okay.new : Okay newM := by
  refine ⟨newM_ok, fun _ => 0, rfl, fun d x hx e he => ?_⟩
  unfold newM at hx
  rw [aget_cons] at hx
  by_cases hk : (0 : Int) = d
  · rw [if_pos hk] at hx
    cases hx
    cases he
  · rw [if_neg hk] at hx; cases hx
theorem Okay.shal {T : TrM} (h : Okay T) (d : Int) : Shal T 8 d := by
  obtain ⟨h1, dep, h2⟩ := h
  exact h2.shal8 h1 d
theorem Okay.makeM {T : TrM} (h : Okay T) (ls : List Nm) (kind : Int) : Okay (makeM T ls kind).2 := by
  obtain ⟨h1, dep, h2⟩ := h
  refine ⟨h1.makeM ls kind, ?_⟩
  unfold Go.Proofs.YtpgklnhkfgbpgaaGreatDoor.makeM
  by_cases he : makeE T ls kind = 0
  · rw [if_pos he]
    obtain ⟨a1, a2, a3, a4, a5⟩ := makeE_zero h1 he
    obtain ⟨x, hx, hk, hm⟩ := placeM_spec h1 a3
    obtain ⟨f, hf, hf1, hf2, hfn, _⟩ := h1.free
    show ∃ dep, DepthOk (makeOk T ls kind) dep
    unfold makeOk
    rw [hf]
    exact h2.make h1 (h2.place (nt := (placeM T ls).2.1) (Prod.ext rfl (Prod.ext rfl a3)) (fineL_len a1)) hfn (by omega) (by rw [hx]; rfl)
  · rw [if_neg he]; exact ⟨dep, h2⟩
theorem Okay.linkM {T : TrM} (h : Okay T) (p tq : List Nm) : Okay (linkM T p tq).2 := by
  obtain ⟨h1, dep, h2⟩ := h
  refine ⟨h1.linkM p tq, ?_⟩
  unfold Go.Proofs.YtpgklnhkfgbpgaaGreatDoor.linkM
  by_cases he : linkE T p tq = 0
  · simp only [if_pos he]
    obtain ⟨a1, a2, a3, a4, a5, a6⟩ := linkE_zero he
    have h3 := h2.link (n := (placeM T tq).2.1) (h2.place (nt := (placeM T tq).2.1) (Prod.ext rfl (Prod.ext rfl a4)) (fineL_len (fine2_zero a1).2)) a3
    unfold linkOk
    exact ⟨dep, h3.sub (Sub.amod (fun _ => by exact rfl) fun x e he => he)⟩
  · simp only [if_neg he]; exact ⟨dep, h2⟩
theorem Okay.unlinkM {T : TrM} (h : Okay T) (p : List Nm) : Okay (unlinkM T p).2 := by
  obtain ⟨h1, dep, h2⟩ := h
  refine ⟨h1.unlinkM p, dep, ?_⟩
  unfold Go.Proofs.YtpgklnhkfgbpgaaGreatDoor.unlinkM
  simp only
  split
  · unfold unlinkOk
    exact h2.sub ((Sub.settle _).trans ((Sub.amod (f := fun x => { x with links := x.links - 1 }) (fun _ => by exact rfl) fun x e he => he).trans (Sub.cut _ _)))
  · exact h2
theorem Okay.rmdirM {T : TrM} (h : Okay T) (p : List Nm) : Okay (rmdirM T p).2 := by
  obtain ⟨h1, dep, h2⟩ := h
  refine ⟨h1.rmdirM p, dep, ?_⟩
  unfold Go.Proofs.YtpgklnhkfgbpgaaGreatDoor.rmdirM
  simp only
  split
  · unfold rmdirOk
    exact h2.sub ((Sub.del _).trans (Sub.cut _ _))
  · exact h2
theorem Okay.appendM {T : TrM} (h : Okay T) (id : Int) (b : List UInt8) : Okay (appendM T id b).2 := by
  obtain ⟨h1, dep, h2⟩ := h
  refine ⟨h1.appendM id b, dep, ?_⟩
  unfold Go.Proofs.YtpgklnhkfgbpgaaGreatDoor.appendM
  simp only
  split
  · exact h2.sub (Sub.amod (fun _ => by exact rfl) fun x e he => he)
  · exact h2
theorem Okay.sealM {T : TrM} (h : Okay T) (id til : Int) (h0 : 0 ≤ til) : Okay (sealM T id til).2 := by
  obtain ⟨h1, dep, h2⟩ := h
  refine ⟨h1.sealM id til h0, dep, ?_⟩
  unfold Go.Proofs.YtpgklnhkfgbpgaaGreatDoor.sealM
  simp only
  split
  · exact h2.sub ((Sub.settle _).trans (Sub.amod (fun _ => by exact rfl) fun x e he => he))
  · exact h2
theorem Okay.keepM {T : TrM} (h : Okay T) (id til : Int) (h0 : 0 ≤ til) : Okay (keepM T id til).2 := by
  obtain ⟨h1, dep, h2⟩ := h
  refine ⟨h1.keepM id til h0, dep, ?_⟩
  unfold Go.Proofs.YtpgklnhkfgbpgaaGreatDoor.keepM
  simp only
  split
  · exact h2.sub (Sub.amod (fun _ => by exact rfl) fun x e he => he)
  · exact h2

/-- The names of one are gone. -/
def stripM (T : TrM) (id : Int) : TrM := T.map fun q => (q.1, { q.2 with names := q.2.names.filter fun e => !decide (e.2 = id) })
theorem dropOk_eq (T : TrM) (id : Int) : dropOk T id = adel id (stripM T id) := rfl
def stripI (id : Int) (x : ItM) : ItM := { x with names := x.names.filter fun e => !decide (e.2 = id) }
theorem stripM_get (T : TrM) (id k : Int) : aget k (stripM T id) = (aget k T).map (stripI id) := aget_map (stripI id) k T
theorem cn_strip (id j : Int) (x : ItM) : cn j (stripI id x) = if j = id then 0 else cn j x := by
  unfold cn stripI
  simp only
  rw [List.countP_filter]
  by_cases h : j = id
  · subst h
    rw [if_pos rfl, List.countP_eq_zero]
    intro e _
    simp
  · rw [if_neg h]
    apply List.countP_congr
    intro e _
    simp only [Bool.and_eq_true, decide_eq_true_eq, Bool.not_eq_true', decide_eq_false_iff_not]
    exact ⟨fun h1 => h1.1, fun h1 => ⟨h1, fun h2 => h (h1.symm.trans h2)⟩⟩
theorem cntM_strip (T : TrM) (id j : Int) : cntM (stripM T id) j = if j = id then 0 else cntM T j := by
  induction T with
  | nil => simp [cntM, stripM]
  | cons y r ih =>
    have e1 : cntM (stripM (y :: r) id) j = cn j (stripI id y.2) + cntM (stripM r id) j := by
      unfold cntM stripM stripI; simp
    have e2 : cntM (y :: r) j = cn j y.2 + cntM r j := by unfold cntM; simp
    rw [e1, e2, ih, cn_strip]
    split <;> simp
theorem OkP.strip {T : TrM} (h : OkP T) (id : Int) : OkP (stripM T id) := by
  have hget : ∀ k x, aget k (stripM T id) = some x → ∃ y, aget k T = some y ∧ x = stripI id y := fun k x hx => by
    rw [stripM_get] at hx
    cases hy : aget k T with
    | none => rw [hy] at hx; cases hx
    | some y =>
      rw [hy] at hx
      simp only [Option.map_some, Option.some.injEq] at hx
      exact ⟨y, rfl, hx.symm⟩
  refine ⟨?_, ?_, fun k x hx => ?_, fun k x hx e he => ?_, by unfold stripM; rw [List.length_map]; exact h.len, fun k x hx => ?_⟩
  · have := h.sorted
    unfold ASorted stripM at *
    rw [List.pairwise_map]
    exact this
  · obtain ⟨x, hx, hk⟩ := kindM_some h.root
    unfold kindM
    rw [stripM_get, hx]
    exact hk
  · obtain ⟨y, hy, rfl⟩ := hget k x hx
    have o := h.each k y hy
    refine ⟨o.kind, fun h1 => ?_, o.dir, o.gone, ?_, fun e he => o.good e (List.mem_filter.1 he).1, o.size, o.links, o.til⟩
    · unfold stripI
      simp only
      rw [o.file h1]; rfl
    · exact List.Pairwise.filter _ o.sorted
  · obtain ⟨y, hy, rfl⟩ := hget k x hx
    have := h.leads k y hy e (List.mem_filter.1 he).1
    refine ⟨?_, this.2⟩
    rw [stripM_get]
    obtain ⟨z, hz⟩ := Option.isSome_iff_exists.1 this.1
    rw [hz]; rfl
  · obtain ⟨y, hy, rfl⟩ := hget k x hx
    exact h.ids k y hy
theorem Sub.strip (T : TrM) (id : Int) : Sub (stripM T id) T := fun d x hx => by
  rw [stripM_get] at hx
  cases hy : aget d T with
  | none => rw [hy] at hx; cases hx
  | some y =>
    rw [hy] at hx
    simp only [Option.map_some, Option.some.injEq] at hx
    subst hx
    exact ⟨y, rfl, rfl, fun e he => (List.mem_filter.1 he).1⟩
theorem dropE_zero {T : TrM} {id : Int} (h : dropE T id = 0) : ∃ x, aget id T = some x ∧ x.kind ≠ 2 ∧ x.closed = false := by
  unfold dropE at h
  cases hx : aget id T with
  | none => rw [hx] at h; cases h
  | some x =>
    rw [hx] at h
    simp only at h
    by_cases hk : x.kind = 2
    · rw [if_pos hk] at h; cases h
    · rw [if_neg hk] at h
      cases hc : x.closed with
      | true => rw [hc] at h; cases h
      | false => exact ⟨x, rfl, hk, hc⟩
theorem OkM.dropM {T : TrM} (h : OkM T) (id : Int) : OkM (dropM T id).2 := by
  unfold Go.Proofs.YtpgklnhkfgbpgaaGreatDoor.dropM
  by_cases he : dropE T id = 0
  · simp only [if_pos he]
    obtain ⟨x, hx, hk, _⟩ := dropE_zero he
    have h0 := h.file_ne hx hk
    have hnil := (h.each id x hx).file ((h.each id x hx).kind.resolve_right hk)
    have hS := h.toOkP.strip id
    have hx' : aget id (stripM T id) = some (stripI id x) := by rw [stripM_get, hx]; rfl
    have hn' : (stripI id x).names = [] := by unfold stripI; simp only; rw [hnil]; rfl
    rw [dropOk_eq]
    refine ⟨hS.del hx' h0 (by rw [cntM_strip, if_pos rfl]), fun j y hy hj => ?_⟩
    have hji : j ≠ id := fun e => by subst e; rw [aget_adel_same] at hy; cases hy
    rw [aget_adel, if_neg hji, stripM_get] at hy
    cases hz : aget j T with
    | none => rw [hz] at hy; cases hy
    | some z =>
      rw [hz] at hy
      simp only [Option.map_some, Option.some.injEq] at hy
      have h1 := cntM_adel hS.sorted hx' j
      have h2 : cn j (stripI id x) = 0 := by unfold cn; rw [hn']; rfl
      have h3 := cntM_strip T id j
      rw [if_neg hji] at h3
      have h4 := h.counts j z hz hj
      have h5 : y.links = z.links := by rw [← hy]; rfl
      omega
  · simp only [if_neg he]; exact h
theorem Okay.dropM {T : TrM} (h : Okay T) (id : Int) : Okay (dropM T id).2 := by
  obtain ⟨h1, dep, h2⟩ := h
  refine ⟨h1.dropM id, dep, ?_⟩
  unfold Go.Proofs.YtpgklnhkfgbpgaaGreatDoor.dropM
  simp only
  split
  · rw [dropOk_eq]
    exact h2.sub ((Sub.del _).trans (Sub.strip _ _))
  · exact h2
theorem renameE_zero {T : TrM} {p tq : List Nm} (h : renameE T p tq = 0) : fine2 p tq = 0 ∧ (lookM T 0 p).2 = 0 ∧ (lookM T 0 p).1 ≠ 0 ∧ (placeM T tq).2.2 = 0 ∧ (kindM T (lookM T 0 p).1 = 2 → withinL tq p = false) ∧ (aget (placeM T tq).2.1 (namesM T (placeM T tq).1) = none → tq.length + deepM T 8 (lookM T 0 p).1 ≤ 8) := by
  unfold renameE at h
  by_cases h1 : fine2 p tq ≠ 0
  · rw [if_pos h1] at h; exact absurd h h1
  · rw [if_neg h1] at h
    by_cases h2 : (lookM T 0 p).2 ≠ 0
    · rw [if_pos h2] at h; exact absurd h h2
    · rw [if_neg h2] at h
      by_cases h3 : (lookM T 0 p).1 = 0
      · rw [if_pos h3] at h; cases h
      · rw [if_neg h3] at h
        by_cases h4 : (placeM T tq).2.2 ≠ 0
        · rw [if_pos h4] at h; exact absurd h h4
        · rw [if_neg h4] at h
          by_cases h5 : kindM T (lookM T 0 p).1 = 2 ∧ withinL tq p = true
          · rw [if_pos h5] at h; cases h
          · rw [if_neg h5] at h
            refine ⟨by omega, by omega, h3, by omega, fun h6 => ?_, fun h6 => ?_⟩
            · cases hw : withinL tq p with
              | false => rfl
              | true => exact absurd ⟨h6, hw⟩ h5
            · rw [h6] at h
              simp only at h
              split at h
              · cases h
              · omega
theorem Okay.renameM {T : TrM} (h : Okay T) (p tq : List Nm) : Okay (renameM T p tq).2 := by
  unfold Go.Proofs.YtpgklnhkfgbpgaaGreatDoor.renameM
  simp only
  by_cases hc : renameE T p tq = 0 ∧ (aget (placeM T tq).2.1 (namesM T (placeM T tq).1)).isSome = false
  · rw [if_pos hc]
    obtain ⟨h1, dep, h2⟩ := h
    obtain ⟨a1, a2, a3, a4, a5, a6⟩ := renameE_zero hc.1
    have hn : aget (placeM T tq).2.1 (namesM T (placeM T tq).1) = none := by simpa using hc.2
    have hlk : lookM T 0 p = ((lookM T 0 p).1, 0) := Prod.ext rfl a2
    have hpl : placeM T tq = ((placeM T tq).1, (placeM T tq).2.1, 0) := Prod.ext rfl (Prod.ext rfl a4)
    obtain ⟨x2, hx2, hk2, hm2⟩ := placeM_spec h1 a4
    have hpn : p ≠ [] := fun e => a3 (by rw [e]; rfl)
    obtain ⟨d1, x1, n1, e1, hl1, hx1, hk1, hn1, _, ep⟩ := place_of_look hlk hpn
    have hf := fine2_zero a1
    unfold renameOk
    refine ⟨?_, h2.move h1 hlk a3 hpl (fineL_len hf.2) fun hk => ⟨a5 hk, a6 hn⟩⟩
    rw [e1]
    rw [namesM_of hx2] at hn
    exact h1.move hx1 hk1 hn1 hx2 hk2 (fineL_good hf.2 _ hm2) hn
  · rw [if_neg hc]; exact h
end Go.Proofs.YtpgklnhkfgbpgaaGreatDoor
