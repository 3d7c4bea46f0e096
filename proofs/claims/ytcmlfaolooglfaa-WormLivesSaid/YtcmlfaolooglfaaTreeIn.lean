/- A law's own tree, beside what else is the law's. -/
import Derived.Test.YtcmlfaolooglfaaTreeOps6
namespace Go.Proofs.Ytcmlfaolooglfaa
open Go.ChangeShapes Go.WideShapes Go.ChangeAt Go.RowKit
set_option linter.unusedVariables false
set_option linter.unusedSimpArgs false

/-- A node without names that lead to it, and without names, is gone. -/
theorem OkM.del {T : TrM} (h : OkM T) {k : Int} {x : ItM} (hx : aget k T = some x) (h0 : k ≠ 0) (hn : x.names = []) (hc : cntM T k = 0) : OkM (adel k T) := by
  have hget : ∀ j y, aget j (adel k T) = some y → j ≠ k ∧ aget j T = some y := fun j y hy => by
    rw [aget_adel] at hy
    by_cases hj : j = k
    · rw [if_pos hj] at hy; cases hy
    · rw [if_neg hj] at hy; exact ⟨hj, hy⟩
  have hcn : ∀ j, cn j x = 0 := fun j => by unfold cn; rw [hn]; rfl
  refine ⟨⟨h.sorted.adel _, ?_, fun j y hy => h.each j y (hget j y hy).2, fun j y hy e he => ?_, ?_, fun j y hy => h.ids j y (hget j y hy).2⟩, fun j y hy hj => ?_⟩
  · have hr := h.root
    unfold kindM at hr ⊢
    rw [aget_adel, if_neg (Ne.symm h0)]
    exact hr
  · have h1 := h.leads j y (hget j y hy).2 e he
    have h2 := cn_zero hc (hget j y hy).2 e he
    rw [aget_adel, if_neg h2]
    exact h1
  · have := length_adel iltLaws h.sorted hx
    have := h.len
    omega
  · have h1 := cntM_adel h.sorted hx j
    rw [hcn] at h1
    have h2 := h.counts j y (hget j y hy).2 hj
    omega
theorem OkM.settle {T : TrM} (h : OkM T) {k : Int} (hk : k ≠ 0) (hf : ∀ x, aget k T = some x → x.kind ≠ 2) : OkM (settleM T k) := by
  unfold settleM
  cases hx : aget k T with
  | none => exact h
  | some x =>
    simp only
    by_cases hc : x.links = 0 ∧ x.closed = true
    · rw [if_pos hc]
      have hk1 := (h.each k x hx).kind.resolve_right (hf x hx)
      refine h.del hx hk ((h.each k x hx).file hk1) ?_
      have := h.counts k x hx hk
      omega
    · rw [if_neg hc]; exact h
theorem OkM.file_ne {T : TrM} (h : OkM T) {k : Int} {x : ItM} (hx : aget k T = some x) (hk : x.kind ≠ 2) : k ≠ 0 := by
  rintro rfl
  have := h.root
  unfold kindM at this
  rw [hx] at this
  exact hk this
theorem makeE_zero {T : TrM} (hT : OkM T) {ls : List Nm} {kind : Int} (h : makeE T ls kind = 0) : fineL ls = 0 ∧ (kind = 1 ∨ kind = 2) ∧ (placeM T ls).2.2 = 0 ∧ aget (placeM T ls).2.1 (namesM T (placeM T ls).1) = none ∧ T.length < 64 := by
  unfold makeE at h
  by_cases h1 : fineL ls ≠ 0
  · rw [if_pos h1] at h; exact absurd h h1
  · rw [if_neg h1] at h
    by_cases h2 : ¬ (kind = 1 ∨ kind = 2)
    · rw [if_pos h2] at h; cases h
    · rw [if_neg h2] at h
      by_cases h3 : (placeM T ls).2.2 ≠ 0
      · rw [if_pos h3] at h; exact absurd h h3
      · rw [if_neg h3] at h
        by_cases h4 : (aget (placeM T ls).2.1 (namesM T (placeM T ls).1)).isSome = true
        · rw [if_pos h4] at h; cases h
        · rw [if_neg h4] at h
          by_cases h5 : 64 ≤ T.length
          · rw [if_pos h5] at h; cases h
          · exact ⟨by omega, Decidable.not_not.1 h2, by omega, by simpa using h4, by omega⟩
theorem OkM.makeM {T : TrM} (h : OkM T) (ls : List Nm) (kind : Int) : OkM (makeM T ls kind).2 := by
  unfold Go.Proofs.Ytcmlfaolooglfaa.makeM
  by_cases he : makeE T ls kind = 0
  · rw [if_pos he]
    obtain ⟨h1, h2, h3, h4, h5⟩ := makeE_zero h he
    obtain ⟨x, hx, hk, hm⟩ := placeM_spec h h3
    obtain ⟨f, hf, hf1, hf2, hfn, _⟩ := h.free
    have e1 : namesM T (placeM T ls).1 = x.names := by unfold namesM; rw [hx]
    rw [e1] at h4
    have hlen := h.len
    show OkM (makeOk T ls kind)
    unfold makeOk
    rw [hf]
    exact h.make h2 hfn (by omega) (by omega) h5 hx hk (fineL_good h1 _ hm) h4
  · rw [if_neg he]; exact h
theorem OkM.appendM {T : TrM} (h : OkM T) (id : Int) (b : List UInt8) : OkM (appendM T id b).2 := by
  unfold Go.Proofs.Ytcmlfaolooglfaa.appendM
  by_cases he : appendE T id b = 0
  · simp only [if_pos he]
    unfold appendE at he
    cases hx : aget id T with
    | none => rw [hx] at he; cases he
    | some x =>
      rw [hx] at he
      simp only at he
      by_cases hk : x.kind = 2
      · rw [if_pos hk] at he; cases he
      · rw [if_neg hk] at he
        cases hc : x.closed with
        | true => rw [hc] at he; cases he
        | false =>
          rw [hc] at he
          simp only [Bool.false_eq_true, if_false] at he
          by_cases hb : 4096 < x.b.length + b.length
          · rw [if_pos hb] at he; cases he
          · have ho := h.each id x hx
            exact h.amod_same hx ⟨ho.kind, ho.file, fun h => absurd h hk, fun _ => hc, ho.sorted, ho.good, by rw [List.length_append]; omega, ho.links, ho.til⟩ rfl rfl rfl
  · simp only [if_neg he]; exact h
theorem OkM.sealM {T : TrM} (h : OkM T) (id til : Int) (h0 : 0 ≤ til) : OkM (sealM T id til).2 := by
  unfold Go.Proofs.Ytcmlfaolooglfaa.sealM
  by_cases he : sealE T id til = 0
  · simp only [if_pos he]
    unfold sealE at he
    cases hx : aget id T with
    | none => rw [hx] at he; cases he
    | some x =>
      rw [hx] at he
      simp only at he
      by_cases hk : x.kind = 2
      · rw [if_pos hk] at he; cases he
      · rw [if_neg hk] at he
        cases hc : x.closed with
        | true => rw [hc] at he; cases he
        | false =>
          rw [hc] at he
          simp only [Bool.false_eq_true, if_false] at he
          by_cases hb : 1099511627776 < til
          · rw [if_pos hb] at he; cases he
          · have ho := h.each id x hx
            have hk1 := ho.kind.resolve_right hk
            have hcnt := h.counts id x hx (h.file_ne hx hk)
            by_cases hl : x.links = 0
            · have hn := ho.file hk1
              have e : settleM (Go.Proofs.Ytcmlfaolooglfaa.amod id (fun x => { x with closed := true, til := til }) T) id = adel id T := by
                unfold settleM
                rw [aget_amod, if_pos rfl, hx]
                simp only [Option.map_some, hl, and_self, if_true]
                unfold adel Go.Proofs.Ytcmlfaolooglfaa.amod
                clear hx ho hcnt he h
                induction T with
                | nil => rfl
                | cons y r ih =>
                  rw [List.map_cons, List.filter_cons, List.filter_cons, ih]
                  by_cases hy : y.1 = id <;> simp [hy]
              rw [e]
              exact h.del hx (h.file_ne hx hk) hn (by omega)
            · have hs : OkM (Go.Proofs.Ytcmlfaolooglfaa.amod id (fun x => { x with closed := true, til := til }) T) :=
                h.amod_same hx ⟨ho.kind, ho.file, fun h => absurd h hk, fun h => absurd h hl, ho.sorted, ho.good, ho.size, ho.links, ⟨h0, by simp only; omega⟩⟩ rfl rfl rfl
              exact hs.settle (h.file_ne hx hk) (fun y hy => by
                rw [aget_amod, if_pos rfl, hx] at hy
                simp only [Option.map_some, Option.some.injEq] at hy
                rw [← hy]
                exact hk)
  · simp only [if_neg he]; exact h
theorem OkM.keepM {T : TrM} (h : OkM T) (id til : Int) (h0 : 0 ≤ til) : OkM (keepM T id til).2 := by
  unfold Go.Proofs.Ytcmlfaolooglfaa.keepM
  by_cases he : keepE T id til = 0
  · simp only [if_pos he]
    unfold keepE at he
    cases hx : aget id T with
    | none => rw [hx] at he; cases he
    | some x =>
      rw [hx] at he
      simp only at he
      by_cases hk : x.kind = 2
      · rw [if_pos hk] at he; cases he
      · rw [if_neg hk] at he
        by_cases hc : x.closed = false
        · rw [if_pos hc] at he; cases he
        · rw [if_neg hc] at he
          by_cases hb : til < x.til
          · rw [if_pos hb] at he; cases he
          · rw [if_neg hb] at he
            by_cases hb : 1099511627776 < til
            · rw [if_pos hb] at he; cases he
            · have ho := h.each id x hx
              exact h.amod_same hx ⟨ho.kind, ho.file, fun h => absurd h hk, ho.gone, ho.sorted, ho.good, ho.size, ho.links, ⟨h0, by simp only; omega⟩⟩ rfl rfl rfl
  · simp only [if_neg he]; exact h
theorem linkE_zero {T : TrM} {p to : List Nm} (h : linkE T p to = 0) : fine2 p to = 0 ∧ (lookM T 0 p).2 = 0 ∧ kindM T (lookM T 0 p).1 ≠ 2 ∧ (placeM T to).2.2 = 0 ∧ aget (placeM T to).2.1 (namesM T (placeM T to).1) = none ∧ linksM T (lookM T 0 p).1 < 64 := by
  unfold linkE at h
  by_cases h1 : fine2 p to ≠ 0
  · rw [if_pos h1] at h; exact absurd h h1
  · rw [if_neg h1] at h
    by_cases h2 : (lookM T 0 p).2 ≠ 0
    · rw [if_pos h2] at h; exact absurd h h2
    · rw [if_neg h2] at h
      by_cases h3 : kindM T (lookM T 0 p).1 = 2
      · rw [if_pos h3] at h; cases h
      · rw [if_neg h3] at h
        by_cases h4 : (placeM T to).2.2 ≠ 0
        · rw [if_pos h4] at h; exact absurd h h4
        · rw [if_neg h4] at h
          by_cases h5 : (aget (placeM T to).2.1 (namesM T (placeM T to).1)).isSome = true
          · rw [if_pos h5] at h; cases h
          · rw [if_neg h5] at h
            by_cases h6 : 64 ≤ linksM T (lookM T 0 p).1
            · rw [if_pos h6] at h; cases h
            · exact ⟨by omega, by omega, h3, by omega, by simpa using h5, by omega⟩
theorem fine2_zero {p q : List Nm} (h : fine2 p q = 0) : fineL p = 0 ∧ fineL q = 0 := by
  unfold fine2 at h
  split at h
  · rename_i h1; exact absurd h h1
  · exact ⟨by omega, h⟩

/-- New since W, and none of P. -/
def Wild (W : World) (P : Nat → Prop) (x : Nat) : Prop := W.heap.size ≤ x ∧ ¬ P x
structure TreeIn (W : World) (P : Nat → Prop) (w : World) (p : Nat) (T : TrM) : Prop where
  at_ : ∃ g D mb ib nb, TreeAt g D w p mb ib nb T ∧ ∀ b, g b ≠ .none ∨ D b → W.heap.size ≤ b ∧ ¬ P b
  ok : OkM T
  below : Below W.heap.size W w
  low : ∀ x, P x → x < w.heap.size
theorem TreeIn.grow {W w w' : World} {P : Nat → Prop} {p : Nat} {T : TrM} (h : TreeIn W P w p T) (hb : Below w.heap.size w w') : TreeIn W P w' p T := by
  obtain ⟨g, D, mb, ib, nb, hA, hF⟩ := h.at_
  exact ⟨⟨g, D, mb, ib, nb, hA.below hb (Nat.le_refl _), hF⟩, h.ok, h.below.trans (hb.mono h.below.size), fun x hx => Nat.lt_of_lt_of_le (h.low x hx) hb.size⟩
/-- What is new is shielded from now on. -/
theorem TreeIn.shield {W w w' : World} {P : Nat → Prop} {p : Nat} {T : TrM} (h : TreeIn W P w p T) (hb : Below w.heap.size w w') : TreeIn W (fun x => P x ∨ (w.heap.size ≤ x ∧ x < w'.heap.size)) w' p T := by
  have h1 := h.grow hb
  obtain ⟨g, D, mb, ib, nb, hA, hF⟩ := h.at_
  refine ⟨⟨g, D, mb, ib, nb, hA.below hb (Nat.le_refl _), fun x hx => ⟨(hF x hx).1, fun hp => ?_⟩⟩, h.ok, h1.below, fun x hx => ?_⟩
  · rcases hp with hp | hp
    · exact (hF x hx).2 hp
    · rcases hx with hx | hx
      · have := hA.low x hx; omega
      · have := hA.dlow x hx; omega
  · rcases hx with hx | hx
    · exact h1.low x hx
    · exact hx.2
theorem TreeIn.mono {W w : World} {P Q : Nat → Prop} {p : Nat} {T : TrM} (h : TreeIn W P w p T) (hq : ∀ x, Q x → P x) : TreeIn W Q w p T := by
  obtain ⟨g, D, mb, ib, nb, hA, hF⟩ := h.at_
  exact ⟨⟨g, D, mb, ib, nb, hA, fun x hx => ⟨(hF x hx).1, fun h => (hF x hx).2 (hq x h)⟩⟩, h.ok, h.below, fun x hx => h.low x (hq x hx)⟩
/-- Turned, and nothing else of the law's. -/
def InTurned (W : World) (P : Nat → Prop) (w : World) (p : Nat) (T : TrM) (v : Value) (e : Ending) (w' : World) : Prop :=
  e = .returned v ∧ TreeIn W P w' p T ∧ Keeps (Wild W P) w w'
theorem TreeIn.of_turn {W w w' : World} {P : Nat → Prop} {p mb : Nat} {T' : TrM} {v : Value} {e : Ending} {g : Nat → Own} {D : Nat → Prop} (hF : ∀ b, g b ≠ .none ∨ D b → W.heap.size ≤ b ∧ ¬ P b) (hB : Below W.heap.size W w) (hP : ∀ x, P x → x < w.heap.size) (ht : Turn g D w p mb T' v e w') (hok : OkM T') : InTurned W P w p T' v e w' := by
  obtain ⟨rfl, g', D', ib', nb', hA', hg', hD', hK⟩ := ht
  have hs := hB.size
  refine ⟨rfl, ⟨⟨g', D', mb, ib', nb', hA', fun b hb => ?_⟩, hok, hB.trans (hK.to_below hs fun x hx hgx => by have := (hF x (.inl hgx)).1; omega), fun x hx => Nat.lt_of_lt_of_le (hP x hx) hK.size⟩, hK.mono fun x _ hx => hF x (.inl hx)⟩
  have key : (g b ≠ .none ∨ D b) ∨ w.heap.size ≤ b := by
    rcases hb with hb | hb
    · rcases hg' b hb with h | h
      · exact .inl (.inl h)
      · exact .inr h
    · rcases hD' b hb with h | h
      · exact .inl (.inr h)
      · exact .inr h
  rcases key with h | h
  · exact hF b h
  · exact ⟨by omega, fun hp => by have := hP b hp; omega⟩

section
variable {W w : World} {P : Nat → Prop} {p : Nat} {T : TrM}
theorem in_make {S : Nat → Prop} (h : TreeIn W P w p T) (a : Option Addr) (n c : Nat) (ls : List Nm) (kind : Int) (hS : StrsAt S w a n (ls.map strOf)) (hc : n ≤ c) (hn8 : n ≤ 1000000) :
    Calls Try.prog 11 #[ptr p, .slice a n c, .int .i64 kind] w (InTurned W P w p (makeM T ls kind).2 (.tuple #[.int .i64 (makeM T ls kind).1.1, .int .i64 (makeM T ls kind).1.2])) := by
  obtain ⟨g, D, mb, ib, nb, hA, hF⟩ := h.at_
  exact (make_at a n c ls kind w hA h.ok hS hc hn8).mono fun e w' ht => TreeIn.of_turn hF h.below h.low ht (h.ok.makeM _ _)
theorem in_seal (h : TreeIn W P w p T) (id til : Int) (hid : (Lit.int .i64 id).wf = true) (ht0 : 0 ≤ til) (ht1 : til ≤ 18446744073709551615) :
    Calls Try.prog 12 #[ptr p, .int .i64 id, .int .u64 til] w (InTurned W P w p (sealM T id til).2 (.int .i64 (sealM T id til).1)) := by
  obtain ⟨g, D, mb, ib, nb, hA, hF⟩ := h.at_
  exact (seal_at id til w hA hid ht0 ht1).mono fun e w' ht => TreeIn.of_turn hF h.below h.low ht (h.ok.sealM _ _ ht0)
theorem in_node (h : TreeIn W P w p T) (id : Int) (hid : (Lit.int .i64 id).wf = true) :
    Calls Try.prog 13 #[ptr p, .int .i64 id] w fun e w' => e = .returned (.tuple #[nodeM T id, .bool (aget id T).isSome]) ∧ Below w.heap.size w w' := by
  obtain ⟨g, D, mb, ib, nb, hAt, hF⟩ := h.at_
  exact node_any id w hAt hid
theorem in_new (W w : World) (hB : Below W.heap.size W w) : Calls Try.prog 10 #[] w fun e w' => ∃ p, e = .returned (ptr p) ∧ TreeIn W (fun x => x < w.heap.size) w' p newM ∧ Below w.heap.size w w' := by
  refine (new_any w).mono ?_
  rintro e w' ⟨g, mb, ib, nb, p, rfl, hA, hg, hb⟩
  have hs := hB.size
  refine ⟨p, rfl, ⟨⟨g, _, mb, ib, nb, hA, fun b hb => ?_⟩, newM_ok, hB.trans (hb.mono hs), fun x hx => Nat.lt_of_lt_of_le hx hb.size⟩, hb⟩
  rcases hb with hb | hb
  · have := hg b hb; omega
  · exact hb.elim
end
end Go.Proofs.Ytcmlfaolooglfaa
