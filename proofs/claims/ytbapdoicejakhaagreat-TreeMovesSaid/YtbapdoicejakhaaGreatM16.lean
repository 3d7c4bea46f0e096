/- A law's own tree, beside what else is the law's. Names that go: what holds of a tree behind Unlink, Rmdir; where a path's name stands. -/
import Derived.Test.YtbapdoicejakhaaGreatM15
namespace Go.Proofs.YtbapdoicejakhaaGreat
open Go.ChangeShapes Go.WideShapes Go.ChangeAt Go.RowKit
set_option linter.unusedVariables false
set_option linter.unusedSimpArgs false

/-- A node without names that lead to it, and without names, is gone. -/
theorem OkM.del {T : TrM} (h : OkM T) {k : Int} {x : ItM} (hx : aget k T = some x) (h0 : k ≠ 0) (hn : x.names = []) (hc : cntM T k = 0) : OkM (adel k T) := by
  have hget : ∀ j y, aget j (adel k T) = some y → j ≠ k ∧ aget j T = some y := fun j y hy => by
    rw [aget_adel] at hy
    by_cases hj : j = k
    · rw [if_pos hj] at hy; cases hy
    · rw [if_neg hj] at hy; exact ⟨hj, hy⟩
  have hcn : ∀ j, cn j x = 0 := fun j => by unfold cn; rw [hn]; rfl
  refine ⟨⟨h.sorted.adel _, ?_, fun j y hy => h.each j y (hget j y hy).2, fun j y hy e he => ?_, ?_, fun j y hy => h.ids j y (hget j y hy).2⟩, fun j y hy hj => ?_⟩
  · have hr := h.root
    unfold kindM at hr ⊢
    rw [aget_adel, if_neg (Ne.symm h0)]
    exact hr
  · have h1 := h.leads j y (hget j y hy).2 e he
    have h2 := cn_zero hc (hget j y hy).2 e he
    rw [aget_adel, if_neg h2]
    exact h1
  · have := length_adel iltLaws h.sorted hx
    have := h.len
    omega
  · have h1 := cntM_adel h.sorted hx j
    rw [hcn] at h1
    have h2 := h.counts j y (hget j y hy).2 hj
    omega
theorem OkM.settle {T : TrM} (h : OkM T) {k : Int} (hk : k ≠ 0) (hf : ∀ x, aget k T = some x → x.kind ≠ 2) : OkM (settleM T k) := by
  unfold settleM
  cases hx : aget k T with
  | none => exact h
  | some x =>
    simp only
    by_cases hc : x.links = 0 ∧ x.closed = true
    · rw [if_pos hc]
      have hk1 := (h.each k x hx).kind.resolve_right (hf x hx)
      refine h.del hx hk ((h.each k x hx).file hk1) ?_
      have := h.counts k x hx hk
      omega
    · rw [if_neg hc]; exact h
theorem OkM.file_ne {T : TrM} (h : OkM T) {k : Int} {x : ItM} (hx : aget k T = some x) (hk : x.kind ≠ 2) : k ≠ 0 := by
  rintro rfl
  have := h.root
  unfold kindM at this
  rw [hx] at this
  exact hk this
theorem makeE_zero {T : TrM} (hT : OkM T) {ls : List Nm} {kind : Int} (h : makeE T ls kind = 0) : fineL ls = 0 ∧ (kind = 1 ∨ kind = 2) ∧ (placeM T ls).2.2 = 0 ∧ aget (placeM T ls).2.1 (namesM T (placeM T ls).1) = none ∧ T.length < 64 := by
  unfold makeE at h
  by_cases h1 : fineL ls ≠ 0
  · rw [if_pos h1] at h; exact absurd h h1
  · rw [if_neg h1] at h
    by_cases h2 : ¬ (kind = 1 ∨ kind = 2)
    · rw [if_pos h2] at h; cases h
    · rw [if_neg h2] at h
      by_cases h3 : (placeM T ls).2.2 ≠ 0
      · rw [if_pos h3] at h; exact absurd h h3
      · rw [if_neg h3] at h
        by_cases h4 : (aget (placeM T ls).2.1 (namesM T (placeM T ls).1)).isSome = true
        · rw [if_pos h4] at h; cases h
        · rw [if_neg h4] at h
          by_cases h5 : 64 ≤ T.length
          · rw [if_pos h5] at h; cases h
          · exact ⟨by omega, Decidable.not_not.1 h2, by omega, by simpa using h4, by omega⟩
theorem OkM.makeM {T : TrM} (h : OkM T) (ls : List Nm) (kind : Int) : OkM (makeM T ls kind).2 := by
  unfold Go.Proofs.YtbapdoicejakhaaGreat.makeM
  by_cases he : makeE T ls kind = 0
  · rw [if_pos he]
    obtain ⟨h1, h2, h3, h4, h5⟩ := makeE_zero h he
    obtain ⟨x, hx, hk, hm⟩ := placeM_spec h h3
    obtain ⟨f, hf, hf1, hf2, hfn, _⟩ := h.free
    have e1 : namesM T (placeM T ls).1 = x.names := by unfold namesM; rw [hx]
    rw [e1] at h4
    have hlen := h.len
    show OkM (makeOk T ls kind)
    unfold makeOk
    rw [hf]
    exact h.make h2 hfn (by omega) (by omega) h5 hx hk (fineL_good h1 _ hm) h4
  · rw [if_neg he]; exact h
theorem OkM.appendM {T : TrM} (h : OkM T) (id : Int) (b : List UInt8) : OkM (appendM T id b).2 := by
  unfold Go.Proofs.YtbapdoicejakhaaGreat.appendM
  by_cases he : appendE T id b = 0
  · simp only [if_pos he]
    unfold appendE at he
    cases hx : aget id T with
    | none => rw [hx] at he; cases he
    | some x =>
      rw [hx] at he
      simp only at he
      by_cases hk : x.kind = 2
      · rw [if_pos hk] at he; cases he
      · rw [if_neg hk] at he
        cases hc : x.closed with
        | true => rw [hc] at he; cases he
        | false =>
          rw [hc] at he
          simp only [Bool.false_eq_true, if_false] at he
          by_cases hb : 4096 < x.b.length + b.length
          · rw [if_pos hb] at he; cases he
          · have ho := h.each id x hx
            exact h.amod_same hx ⟨ho.kind, ho.file, fun h => absurd h hk, fun _ => hc, ho.sorted, ho.good, by rw [List.length_append]; omega, ho.links, ho.til⟩ rfl rfl rfl
  · simp only [if_neg he]; exact h
theorem OkM.sealM {T : TrM} (h : OkM T) (id til : Int) (h0 : 0 ≤ til) : OkM (sealM T id til).2 := by
  unfold Go.Proofs.YtbapdoicejakhaaGreat.sealM
  by_cases he : sealE T id til = 0
  · simp only [if_pos he]
    unfold sealE at he
    cases hx : aget id T with
    | none => rw [hx] at he; cases he
    | some x =>
      rw [hx] at he
      simp only at he
      by_cases hk : x.kind = 2
      · rw [if_pos hk] at he; cases he
      · rw [if_neg hk] at he
        cases hc : x.closed with
        | true => rw [hc] at he; cases he
        | false =>
          rw [hc] at he
          simp only [Bool.false_eq_true, if_false] at he
          by_cases hb : 1099511627776 < til
          · rw [if_pos hb] at he; cases he
          · have ho := h.each id x hx
            have hk1 := ho.kind.resolve_right hk
            have hcnt := h.counts id x hx (h.file_ne hx hk)
            by_cases hl : x.links = 0
            · have hn := ho.file hk1
              have e : settleM (Go.Proofs.YtbapdoicejakhaaGreat.amod id (fun x => { x with closed := true, til := til }) T) id = adel id T := by
                unfold settleM
                rw [aget_amod, if_pos rfl, hx]
                simp only [Option.map_some, hl, and_self, if_true]
                unfold adel Go.Proofs.YtbapdoicejakhaaGreat.amod
                clear hx ho hcnt he h
                induction T with
                | nil => rfl
                | cons y r ih =>
                  rw [List.map_cons, List.filter_cons, List.filter_cons, ih]
                  by_cases hy : y.1 = id <;> simp [hy]
              rw [e]
              exact h.del hx (h.file_ne hx hk) hn (by omega)
            · have hs : OkM (Go.Proofs.YtbapdoicejakhaaGreat.amod id (fun x => { x with closed := true, til := til }) T) :=
                h.amod_same hx ⟨ho.kind, ho.file, fun h => absurd h hk, fun h => absurd h hl, ho.sorted, ho.good, ho.size, ho.links, ⟨h0, by simp only; omega⟩⟩ rfl rfl rfl
              exact hs.settle (h.file_ne hx hk) (fun y hy => by
                rw [aget_amod, if_pos rfl, hx] at hy
                simp only [Option.map_some, Option.some.injEq] at hy
                rw [← hy]
                exact hk)
  · simp only [if_neg he]; exact h
theorem OkM.keepM {T : TrM} (h : OkM T) (id til : Int) (h0 : 0 ≤ til) : OkM (keepM T id til).2 := by
  unfold Go.Proofs.YtbapdoicejakhaaGreat.keepM
  by_cases he : keepE T id til = 0
  · simp only [if_pos he]
    unfold keepE at he
    cases hx : aget id T with
    | none => rw [hx] at he; cases he
    | some x =>
      rw [hx] at he
      simp only at he
      by_cases hk : x.kind = 2
      · rw [if_pos hk] at he; cases he
      · rw [if_neg hk] at he
        by_cases hc : x.closed = false
        · rw [if_pos hc] at he; cases he
        · rw [if_neg hc] at he
          by_cases hb : til < x.til
          · rw [if_pos hb] at he; cases he
          · rw [if_neg hb] at he
            by_cases hb : 1099511627776 < til
            · rw [if_pos hb] at he; cases he
            · have ho := h.each id x hx
              exact h.amod_same hx ⟨ho.kind, ho.file, fun h => absurd h hk, ho.gone, ho.sorted, ho.good, ho.size, ho.links, ⟨h0, by simp only; omega⟩⟩ rfl rfl rfl
  · simp only [if_neg he]; exact h
theorem linkE_zero {T : TrM} {p to : List Nm} (h : linkE T p to = 0) : fine2 p to = 0 ∧ (lookM T 0 p).2 = 0 ∧ kindM T (lookM T 0 p).1 ≠ 2 ∧ (placeM T to).2.2 = 0 ∧ aget (placeM T to).2.1 (namesM T (placeM T to).1) = none ∧ linksM T (lookM T 0 p).1 < 64 := by
  unfold linkE at h
  by_cases h1 : fine2 p to ≠ 0
  · rw [if_pos h1] at h; exact absurd h h1
  · rw [if_neg h1] at h
    by_cases h2 : (lookM T 0 p).2 ≠ 0
    · rw [if_pos h2] at h; exact absurd h h2
    · rw [if_neg h2] at h
      by_cases h3 : kindM T (lookM T 0 p).1 = 2
      · rw [if_pos h3] at h; cases h
      · rw [if_neg h3] at h
        by_cases h4 : (placeM T to).2.2 ≠ 0
        · rw [if_pos h4] at h; exact absurd h h4
        · rw [if_neg h4] at h
          by_cases h5 : (aget (placeM T to).2.1 (namesM T (placeM T to).1)).isSome = true
          · rw [if_pos h5] at h; cases h
          · rw [if_neg h5] at h
            by_cases h6 : 64 ≤ linksM T (lookM T 0 p).1
            · rw [if_pos h6] at h; cases h
            · exact ⟨by omega, by omega, h3, by omega, by simpa using h5, by omega⟩
theorem fine2_zero {p q : List Nm} (h : fine2 p q = 0) : fineL p = 0 ∧ fineL q = 0 := by
  unfold fine2 at h
  split at h
  · rename_i h1; exact absurd h h1
  · exact ⟨by omega, h⟩
theorem OkM.linkM {T : TrM} (h : OkM T) (p to : List Nm) : OkM (linkM T p to).2 := by
  unfold Go.Proofs.YtbapdoicejakhaaGreat.linkM
  by_cases he : linkE T p to = 0
  · simp only [if_pos he]
    obtain ⟨h1, h2, h3, h4, h5, h6⟩ := linkE_zero he
    obtain ⟨x, hx, hk, hm⟩ := placeM_spec h h4
    obtain ⟨y, hy⟩ := Option.isSome_iff_exists.1 (lookM_there h p 0 (root_there h) h2)
    have e1 : namesM T (placeM T to).1 = x.names := by unfold namesM; rw [hx]
    have e2 : linksM T (lookM T 0 p).1 = y.links := by unfold linksM; rw [hy]
    rw [e1] at h5
    rw [e2] at h6
    rw [kindM_of hy] at h3
    exact h.link hx hk (fineL_good (fine2_zero h1).2 _ hm) h5 hy h3 h6 (h.file_ne hy h3)
  · simp only [if_neg he]; exact h

/-- New since W, and none of P. -/
def Wild (W : World) (P : Nat → Prop) (x : Nat) : Prop := W.heap.size ≤ x ∧ ¬ P x
structure TreeIn (W : World) (P : Nat → Prop) (w : World) (p : Nat) (T : TrM) : Prop where
  at_ : ∃ g D mb ib nb, TreeAt g D w p mb ib nb T ∧ ∀ b, g b ≠ .none ∨ D b → W.heap.size ≤ b ∧ ¬ P b
  ok : OkM T
  below : Below W.heap.size W w
  low : ∀ x, P x → x < w.heap.size
theorem TreeIn.grow {W w w' : World} {P : Nat → Prop} {p : Nat} {T : TrM} (h : TreeIn W P w p T) (hb : Below w.heap.size w w') : TreeIn W P w' p T := by
  obtain ⟨g, D, mb, ib, nb, hA, hF⟩ := h.at_
  exact ⟨⟨g, D, mb, ib, nb, hA.below hb (Nat.le_refl _), hF⟩, h.ok, h.below.trans (hb.mono h.below.size), fun x hx => Nat.lt_of_lt_of_le (h.low x hx) hb.size⟩
/-- What is new is shielded from now on. -/
theorem TreeIn.shield {W w w' : World} {P : Nat → Prop} {p : Nat} {T : TrM} (h : TreeIn W P w p T) (hb : Below w.heap.size w w') : TreeIn W (fun x => P x ∨ (w.heap.size ≤ x ∧ x < w'.heap.size)) w' p T := by
  have h1 := h.grow hb
  obtain ⟨g, D, mb, ib, nb, hA, hF⟩ := h.at_
  refine ⟨⟨g, D, mb, ib, nb, hA.below hb (Nat.le_refl _), fun x hx => ⟨(hF x hx).1, fun hp => ?_⟩⟩, h.ok, h1.below, fun x hx => ?_⟩
  · rcases hp with hp | hp
    · exact (hF x hx).2 hp
    · rcases hx with hx | hx
      · have := hA.low x hx; omega
      · have := hA.dlow x hx; omega
  · rcases hx with hx | hx
    · exact h1.low x hx
    · exact hx.2
theorem TreeIn.mono {W w : World} {P Q : Nat → Prop} {p : Nat} {T : TrM} (h : TreeIn W P w p T) (hq : ∀ x, Q x → P x) : TreeIn W Q w p T := by
  obtain ⟨g, D, mb, ib, nb, hA, hF⟩ := h.at_
  exact ⟨⟨g, D, mb, ib, nb, hA, fun x hx => ⟨(hF x hx).1, fun h => (hF x hx).2 (hq x h)⟩⟩, h.ok, h.below, fun x hx => h.low x (hq x hx)⟩
/-- Turned, and nothing else of the law's. -/
def InTurned (W : World) (P : Nat → Prop) (w : World) (p : Nat) (T : TrM) (v : Value) (e : Ending) (w' : World) : Prop :=
  e = .returned v ∧ TreeIn W P w' p T ∧ Keeps (Wild W P) w w'
theorem TreeIn.of_turn {W w w' : World} {P : Nat → Prop} {p mb : Nat} {T' : TrM} {v : Value} {e : Ending} {g : Nat → Own} {D : Nat → Prop} (hF : ∀ b, g b ≠ .none ∨ D b → W.heap.size ≤ b ∧ ¬ P b) (hB : Below W.heap.size W w) (hP : ∀ x, P x → x < w.heap.size) (ht : Turn g D w p mb T' v e w') (hok : OkM T') : InTurned W P w p T' v e w' := by
  obtain ⟨rfl, g', D', ib', nb', hA', hg', hD', hK⟩ := ht
  have hs := hB.size
  refine ⟨rfl, ⟨⟨g', D', mb, ib', nb', hA', fun b hb => ?_⟩, hok, hB.trans (hK.to_below hs fun x hx hgx => by have := (hF x (.inl hgx)).1; omega), fun x hx => Nat.lt_of_lt_of_le (hP x hx) hK.size⟩, hK.mono fun x _ hx => hF x (.inl hx)⟩
  have key : (g b ≠ .none ∨ D b) ∨ w.heap.size ≤ b := by
    rcases hb with hb | hb
    · rcases hg' b hb with h | h
      · exact .inl (.inl h)
      · exact .inr h
    · rcases hD' b hb with h | h
      · exact .inl (.inr h)
      · exact .inr h
  rcases key with h | h
  · exact hF b h
  · exact ⟨by omega, fun hp => by have := hP b hp; omega⟩

section
variable {W w : World} {P : Nat → Prop} {p : Nat} {T : TrM}
theorem in_make {S : Nat → Prop} (h : TreeIn W P w p T) (a : Option Addr) (n c : Nat) (ls : List Nm) (kind : Int) (hS : StrsAt S w a n (ls.map strOf)) (hc : n ≤ c) (hn8 : n ≤ 1000000) :
    Calls Tryz.prog 16 #[ptr p, .slice a n c, .int .i64 kind] w (InTurned W P w p (makeM T ls kind).2 (.tuple #[.int .i64 (makeM T ls kind).1.1, .int .i64 (makeM T ls kind).1.2])) := by
  obtain ⟨g, D, mb, ib, nb, hA, hF⟩ := h.at_
  exact (make_at a n c ls kind w hA h.ok hS hc hn8).mono fun e w' ht => TreeIn.of_turn hF h.below h.low ht (h.ok.makeM _ _)
theorem in_link {S S' : Nat → Prop} (h : TreeIn W P w p T) (a : Option Addr) (n c : Nat) (ls : List Nm) (a' : Option Addr) (n' c' : Nat) (ls' : List Nm) (hS : StrsAt S w a n (ls.map strOf)) (hS' : StrsAt S' w a' n' (ls'.map strOf)) (hc' : n' ≤ c') (hn8 : n' ≤ 1000000) :
    Calls Tryz.prog 24 #[ptr p, .slice a n c, .slice a' n' c'] w (InTurned W P w p (linkM T ls ls').2 (.int .i64 (linkM T ls ls').1)) := by
  obtain ⟨g, D, mb, ib, nb, hA, hF⟩ := h.at_
  exact (link_at a n c ls a' n' c' ls' w hA h.ok hS hS' hc' hn8).mono fun e w' ht => TreeIn.of_turn hF h.below h.low ht (h.ok.linkM _ _)
theorem in_append {S : Nat → Prop} (h : TreeIn W P w p T) (id : Int) (a : Option Addr) (l c : Nat) (bs : List UInt8) (hid : (Lit.int .i64 id).wf = true) (hr : RowAt S w a l (bs.map bv)) (hl : l ≤ 1000000000) :
    Calls Tryz.prog 28 #[ptr p, .int .i64 id, .slice a l c] w (InTurned W P w p (appendM T id bs).2 (.int .i64 (appendM T id bs).1)) := by
  obtain ⟨g, D, mb, ib, nb, hA, hF⟩ := h.at_
  exact (append_at id a l c bs w hA (fun x hx => (h.ok.each id x hx).size) hid hr hl).mono fun e w' ht => TreeIn.of_turn hF h.below h.low ht (h.ok.appendM _ _)
theorem in_seal (h : TreeIn W P w p T) (id til : Int) (hid : (Lit.int .i64 id).wf = true) (ht0 : 0 ≤ til) (ht1 : til ≤ 18446744073709551615) :
    Calls Tryz.prog 30 #[ptr p, .int .i64 id, .int .u64 til] w (InTurned W P w p (sealM T id til).2 (.int .i64 (sealM T id til).1)) := by
  obtain ⟨g, D, mb, ib, nb, hA, hF⟩ := h.at_
  exact (seal_at id til w hA hid ht0 ht1).mono fun e w' ht => TreeIn.of_turn hF h.below h.low ht (h.ok.sealM _ _ ht0)
theorem in_keep (h : TreeIn W P w p T) (id til : Int) (hid : (Lit.int .i64 id).wf = true) (ht0 : 0 ≤ til) (ht1 : til ≤ 18446744073709551615) :
    Calls Tryz.prog 32 #[ptr p, .int .i64 id, .int .u64 til] w (InTurned W P w p (keepM T id til).2 (.int .i64 (keepM T id til).1)) := by
  obtain ⟨g, D, mb, ib, nb, hA, hF⟩ := h.at_
  exact (keep_at id til w hA hid ht0 ht1 (fun x hx => (h.ok.each id x hx).til)).mono fun e w' ht => TreeIn.of_turn hF h.below h.low ht (h.ok.keepM _ _ ht0)
theorem in_drop_err (h : TreeIn W P w p T) (id : Int) (hd : dropE T id ≠ 0) (hid : (Lit.int .i64 id).wf = true) :
    Calls Tryz.prog 36 #[ptr p, .int .i64 id] w (InTurned W P w p T (.int .i64 (dropE T id))) := by
  obtain ⟨g, D, mb, ib, nb, hA, hF⟩ := h.at_
  have := drop_err id hd w hA hid
  unfold dropM at this
  rw [if_neg hd] at this
  exact this.mono fun e w' ht => TreeIn.of_turn hF h.below h.low ht h.ok
theorem in_read (h : TreeIn W P w p T) (id at_ n : Int) (hid : (Lit.int .i64 id).wf = true) (hA : (Lit.int .i64 at_).wf = true) (hN : (Lit.int .i64 n).wf = true) :
    Calls Tryz.prog 34 #[ptr p, .int .i64 id, .int .i64 at_, .int .i64 n] w (RetPart w (readB T id at_ n) (readE T id at_ n)) := by
  obtain ⟨g, D, mb, ib, nb, hAt, hF⟩ := h.at_
  exact read_any id at_ n w hAt (fun x hx => (h.ok.each id x hx).size) hid hA hN
theorem in_node (h : TreeIn W P w p T) (id : Int) (hid : (Lit.int .i64 id).wf = true) :
    Calls Tryz.prog 14 #[ptr p, .int .i64 id] w fun e w' => e = .returned (.tuple #[nodeM T id, .bool (aget id T).isSome]) ∧ Below w.heap.size w w' := by
  obtain ⟨g, D, mb, ib, nb, hAt, hF⟩ := h.at_
  exact node_any id w hAt hid
theorem in_count (h : TreeIn W P w p T) : Calls Tryz.prog 15 #[ptr p] w fun e w' => e = .returned (.int .i64 T.length) ∧ w = w' := by
  obtain ⟨g, D, mb, ib, nb, hAt, hF⟩ := h.at_
  exact count_any w hAt
theorem in_new (W w : World) (hB : Below W.heap.size W w) : Calls Tryz.prog 20 #[] w fun e w' => ∃ p, e = .returned (ptr p) ∧ TreeIn W (fun x => x < w.heap.size) w' p newM ∧ Below w.heap.size w w' := by
  refine (new_any w).mono ?_
  rintro e w' ⟨g, mb, ib, nb, p, rfl, hA, hg, hb⟩
  have hs := hB.size
  refine ⟨p, rfl, ⟨⟨g, _, mb, ib, nb, hA, fun b hb => ?_⟩, newM_ok, hB.trans (hb.mono hs), fun x hx => Nat.lt_of_lt_of_le hx hb.size⟩, hb⟩
  rcases hb with hb | hb
  · have := hg b hb; omega
  · exact hb.elim
end
end Go.Proofs.YtbapdoicejakhaaGreat
namespace Go.Proofs.YtbapdoicejakhaaGreat
open Go.ChangeShapes Go.WideShapes Go.ChangeAt Go.RowKit
set_option linter.unusedVariables false
set_option linter.unusedSimpArgs false

theorem lookM_append (T : TrM) : ∀ (p q : List Nm) (a : Int), lookM T a (p ++ q) = if (lookM T a p).2 = 0 then lookM T (lookM T a p).1 q else lookM T a p
  | [], q, a => by simp [lookM]
  | n :: r, q, a => by
    rcases Option.eq_none_or_eq_some (aget a T) with hx | ⟨x, hx⟩
    · simp [lookM, hx]
    · by_cases hk : x.kind = 2
      · rcases Option.eq_none_or_eq_some (aget n x.names) with hn | ⟨k, hn⟩
        · simp [lookM, hx, hk, hn]
        · simp only [List.cons_append, lookM, hx, if_pos hk, hn]
          exact lookM_append T r q k
      · simp [lookM, hx, hk]
/-- Where a path's last name stands. -/
theorem place_of_look {T : TrM} {p : List Nm} {id : Int} (h : lookM T 0 p = (id, 0)) (hp : p ≠ []) : ∃ d x n, placeM T p = (d, n, 0) ∧ lookM T 0 p.dropLast = (d, 0) ∧ aget d T = some x ∧ x.kind = 2 ∧ aget n x.names = some id ∧ n ∈ p ∧ p = p.dropLast ++ [n] := by
  obtain ⟨q, n, rfl⟩ : ∃ q n, p = q ++ [n] := ⟨p.dropLast, p.getLast hp, (List.dropLast_concat_getLast hp).symm⟩
  rw [lookM_append] at h
  have hd : (q ++ [n]).dropLast = q := by simp
  have hl : (q ++ [n]).getLastD [] = n := by simp [List.getLastD_eq_getLast?]
  by_cases he : (lookM T 0 q).2 = 0
  · rw [if_pos he] at h
    obtain ⟨⟨d, e0⟩, hq⟩ : ∃ r, r = lookM T 0 q := ⟨_, rfl⟩
    rw [← hq] at h he
    simp only at he
    subst he
    simp only [lookM] at h
    cases hx : aget d T with
    | none => rw [hx] at h; cases h
    | some x =>
      rw [hx] at h
      simp only at h
      by_cases hk : x.kind = 2
      · rw [if_pos hk] at h
        cases hn : aget n x.names with
        | none => rw [hn] at h; cases h
        | some k =>
          rw [hn] at h
          simp only [Prod.mk.injEq, and_true] at h
          subst h
          refine ⟨d, x, n, ?_, by rw [hd, ← hq], hx, hk, hn, by simp, by rw [hd]⟩
          unfold placeM
          rw [if_neg hp, hd, hl, ← hq, if_neg (by simp), if_pos ((kindM_of hx).trans hk)]
      · rw [if_neg hk] at h; cases h
  · rw [if_neg he] at h
    rw [h] at he
    exact absurd rfl he
theorem cnt_adel {α : Type} {κ : Type} [DecidableEq κ] {lt : κ → κ → Bool} (L : LtLaws lt) (P : κ × α → Bool) {l : List (κ × α)} (hs : ASorted lt l) {k : κ} {v : α} (hg : aget k l = some v) : (adel k l).countP P + (if P (k, v) then 1 else 0) = l.countP P := by
  induction l with
  | nil => cases hg
  | cons y r ih =>
    have hp := hs.apart L
    obtain ⟨h1, h2⟩ := List.pairwise_cons.1 hp
    rw [aget_cons] at hg
    have hcons : adel k (y :: r) = if y.1 = k then adel k r else y :: adel k r := by
      unfold adel
      rw [List.filter_cons]
      by_cases hy : y.1 = k <;> simp [hy]
    rw [hcons]
    by_cases hy : y.1 = k
    · rw [if_pos hy] at hg
      rw [if_pos hy]
      cases hg
      have hr : adel k r = r := by
        unfold adel
        rw [List.filter_eq_self]
        intro q hq
        have := h1 q hq
        simp only [Bool.not_eq_true', decide_eq_false_iff_not]
        exact fun e => this (hy.trans e.symm)
      have e : (k, y.2) = y := by rw [← hy]
      rw [hr, List.countP_cons, e]
    · rw [if_neg hy] at hg
      rw [if_neg hy, List.countP_cons, List.countP_cons]
      have := ih (List.pairwise_cons.1 hs).2 hg
      omega
theorem cn_cut {x : ItM} (h : Ok1 x) {n : Nm} {id : Int} (hn : aget n x.names = some id) (k : Int) : cn k { x with names := adel n x.names } + (if id = k then 1 else 0) = cn k x := by
  have := cnt_adel bbLt (fun e : Nm × Int => decide (e.2 = k)) h.sorted hn
  unfold cn
  simp only [decide_eq_true_eq] at this
  exact this
theorem ok1_cut {x : ItM} (h : Ok1 x) (n : Nm) (hk : x.kind = 2) : Ok1 { x with names := adel n x.names } := by
  refine ⟨h.kind, fun h1 => ?_, h.dir, h.gone, h.sorted.adel _, fun e he => h.good e (List.mem_filter.1 he).1, h.size, h.links, h.til⟩
  have : x.kind = 1 := h1
  omega
theorem OkP.cut {T : TrM} (h : OkP T) {d : Int} {x : ItM} {n : Nm} (hx : aget d T = some x) (hk : x.kind = 2) : OkP (cutName T d n) :=
  h.amod hx (ok1_cut (h.each d x hx) n hk) rfl (fun e he => h.leads d x hx e (List.mem_filter.1 he).1)
theorem OkP.del {T : TrM} (h : OkP T) {k : Int} {x : ItM} (hx : aget k T = some x) (h0 : k ≠ 0) (hc : cntM T k = 0) : OkP (adel k T) := by
  have hget : ∀ j y, aget j (adel k T) = some y → j ≠ k ∧ aget j T = some y := fun j y hy => by
    rw [aget_adel] at hy
    by_cases hj : j = k
    · rw [if_pos hj] at hy; cases hy
    · rw [if_neg hj] at hy; exact ⟨hj, hy⟩
  refine ⟨h.sorted.adel _, ?_, fun j y hy => h.each j y (hget j y hy).2, fun j y hy e he => ?_, ?_, fun j y hy => h.ids j y (hget j y hy).2⟩
  · have hr := h.root
    unfold kindM at hr ⊢
    rw [aget_adel, if_neg (Ne.symm h0)]
    exact hr
  · have h1 := h.leads j y (hget j y hy).2 e he
    have h2 := cn_zero hc (hget j y hy).2 e he
    rw [aget_adel, if_neg h2]
    exact h1
  · have := length_adel iltLaws h.sorted hx
    have := h.len
    omega
theorem cntM_cut {T : TrM} (h : OkP T) {d id : Int} {x : ItM} {n : Nm} (hx : aget d T = some x) (hn : aget n x.names = some id) (j : Int) : cntM (cutName T d n) j + (if id = j then 1 else 0) = cntM T j := by
  have h1 := cntM_amod h.sorted (fun x => { x with names := adel n x.names }) hx j
  have h2 := cn_cut (h.each d x hx) hn j
  unfold cutName
  omega
theorem cut_get {T : TrM} {d j : Int} {n : Nm} {y : ItM} (hy : aget j (cutName T d n) = some y) : ∃ z, aget j T = some z ∧ y.links = z.links ∧ y.kind = z.kind ∧ y.closed = z.closed ∧ y.b = z.b ∧ (j ≠ d → y = z) := by
  unfold cutName at hy
  rw [aget_amod] at hy
  by_cases hj : j = d
  · rw [if_pos hj] at hy
    cases hz : aget j T with
    | none => rw [hz] at hy; cases hy
    | some z =>
      rw [hz] at hy
      simp only [Option.map_some, Option.some.injEq] at hy
      subst hy
      exact ⟨z, rfl, rfl, rfl, rfl, rfl, fun h => absurd hj h⟩
  · rw [if_neg hj] at hy
    exact ⟨y, hy, rfl, rfl, rfl, rfl, fun _ => rfl⟩
/-- A node's last name goes, and it: it has no names itself. -/
theorem OkM.cut_del {T : TrM} (h : OkM T) {d id : Int} {x y : ItM} {n : Nm} (hx : aget d T = some x) (hk : x.kind = 2) (hn : aget n x.names = some id) (hy : aget id T = some y) (hid : id ≠ d) (h0 : id ≠ 0) (hyn : y.names = []) (hl : y.links = 1) : OkM (adel id (cutName T d n)) := by
  have hP := h.toOkP.cut (n := n) hx hk
  have hy1 : aget id (cutName T d n) = some y := by unfold cutName; rw [aget_amod, if_neg hid]; exact hy
  have hc := h.counts id y hy h0
  have h1 := cntM_cut h.toOkP hx hn id
  rw [if_pos rfl] at h1
  refine ⟨hP.del hy1 h0 (by omega), fun j z hz hj => ?_⟩
  have hji : j ≠ id := fun e => by subst e; rw [aget_adel_same] at hz; cases hz
  rw [aget_adel, if_neg hji] at hz
  obtain ⟨z', hz', hl', _⟩ := cut_get hz
  have h2 := cntM_cut h.toOkP hx hn j
  rw [if_neg (Ne.symm hji)] at h2
  have h3 := cntM_adel hP.sorted hy1 j
  have h4 : cn j y = 0 := by unfold cn; rw [hyn]; rfl
  have := h.counts j z' hz' hj
  omega
/-- A name of a file goes; with none left, closed, it is gone. -/
theorem OkM.cut_file {T : TrM} (h : OkM T) {d id : Int} {x y : ItM} {n : Nm} (hx : aget d T = some x) (hk : x.kind = 2) (hn : aget n x.names = some id) (hy : aget id T = some y) (hyk : y.kind ≠ 2) :
    OkM (settleM (Go.Proofs.YtbapdoicejakhaaGreat.amod id (fun x => { x with links := x.links - 1 }) (cutName T d n)) id) := by
  have hoy := h.each id y hy
  have h0 := h.file_ne hy hyk
  have hid : id ≠ d := fun e => by subst e; rw [hx] at hy; cases hy; exact hyk hk
  have hk1 := hoy.kind.resolve_right hyk
  have hyn := hoy.file hk1
  have hP := h.toOkP.cut (n := n) hx hk
  have hy1 : aget id (cutName T d n) = some y := by unfold cutName; rw [aget_amod, if_neg hid]; exact hy
  have hg : aget id (Go.Proofs.YtbapdoicejakhaaGreat.amod id (fun x => { x with links := x.links - 1 }) (cutName T d n)) = some { y with links := y.links - 1 } := by rw [aget_amod, if_pos rfl, hy1]; rfl
  have hcy := h.counts id y hy h0
  have h1 := cntM_cut h.toOkP hx hn id
  rw [if_pos rfl] at h1
  unfold settleM
  rw [hg]
  simp only
  by_cases hc : y.links - 1 = 0 ∧ y.closed = true
  · rw [if_pos hc]
    have e : adel id (Go.Proofs.YtbapdoicejakhaaGreat.amod id (fun x => { x with links := x.links - 1 }) (cutName T d n)) = adel id (cutName T d n) := by
      generalize cutName T d n = L
      unfold adel Go.Proofs.YtbapdoicejakhaaGreat.amod
      induction L with
      | nil => rfl
      | cons y r ih =>
        rw [List.map_cons, List.filter_cons, List.filter_cons, ih]
        by_cases hy : y.1 = id <;> simp [hy]
    rw [e]
    exact h.cut_del hx hk hn hy hid h0 hyn (by omega)
  · rw [if_neg hc]
    refine ⟨hP.amod (f := fun x => { x with links := x.links - 1 }) hy1 ⟨hoy.kind, hoy.file, fun h => absurd h hyk, fun h => ?_, hoy.sorted, hoy.good, hoy.size, ?_, hoy.til⟩ rfl (hP.leads id y hy1), fun j z hz hj => ?_⟩
    · cases hcl : y.closed with
      | true => exact absurd ⟨h, hcl⟩ hc
      | false => rfl
    · have := hoy.links
      simp only
      omega
    · have h3 := cntM_amod hP.sorted (fun x => { x with links := x.links - 1 }) hy1 j
      have h3' : cn j { y with links := y.links - 1 } = cn j y := rfl
      have h4 := cntM_cut h.toOkP hx hn j
      rw [aget_amod] at hz
      by_cases hji : j = id
      · subst hji
        rw [if_pos rfl, hy1] at hz
        simp only [Option.map_some, Option.some.injEq] at hz
        rw [if_pos rfl] at h4
        rw [← hz]
        simp only
        omega
      · rw [if_neg hji] at hz
        rw [if_neg (Ne.symm hji)] at h4
        obtain ⟨z', hz', hl', _⟩ := cut_get hz
        have := h.counts j z' hz' hj
        omega
theorem unlinkE_zero {T : TrM} {p : List Nm} (h : unlinkE T p = 0) : fineL p = 0 ∧ (lookM T 0 p).2 = 0 ∧ kindM T (lookM T 0 p).1 ≠ 2 := by
  unfold unlinkE lookE at h
  by_cases h1 : fineL p ≠ 0
  · rw [if_pos h1] at h
    simp only [if_pos h1] at h
    exact absurd h h1
  · rw [if_neg h1] at h
    by_cases h2 : (lookM T 0 p).2 ≠ 0
    · rw [if_pos h2] at h; exact absurd h h2
    · rw [if_neg h2] at h
      by_cases h3 : kindM T (lookM T 0 p).1 = 2
      · rw [if_pos h3] at h; cases h
      · exact ⟨by omega, by omega, h3⟩
theorem OkM.unlinkM {T : TrM} (h : OkM T) (p : List Nm) : OkM (unlinkM T p).2 := by
  unfold Go.Proofs.YtbapdoicejakhaaGreat.unlinkM
  by_cases he : unlinkE T p = 0
  · simp only [if_pos he]
    obtain ⟨h1, h2, h3⟩ := unlinkE_zero he
    obtain ⟨y, hy⟩ := Option.isSome_iff_exists.1 (lookM_there h p 0 (root_there h) h2)
    have hp : p ≠ [] := fun e => by subst e; exact h3 h.root
    obtain ⟨d, x, n, e1, _, hx, hk, hn, _⟩ := place_of_look (id := (lookM T 0 p).1) (Prod.ext rfl h2) hp
    rw [kindM_of hy] at h3
    unfold unlinkOk
    rw [e1]
    exact h.cut_file hx hk hn hy h3
  · simp only [if_neg he]; exact h
theorem rmdirE_zero {T : TrM} {p : List Nm} (h : rmdirE T p = 0) : fineL p = 0 ∧ (lookM T 0 p).2 = 0 ∧ kindM T (lookM T 0 p).1 = 2 ∧ (lookM T 0 p).1 ≠ 0 ∧ namesM T (lookM T 0 p).1 = [] := by
  unfold rmdirE lookE at h
  by_cases h1 : fineL p ≠ 0
  · rw [if_pos h1] at h
    simp only [if_pos h1] at h
    exact absurd h h1
  · rw [if_neg h1] at h
    by_cases h2 : (lookM T 0 p).2 ≠ 0
    · rw [if_pos h2] at h; exact absurd h h2
    · rw [if_neg h2] at h
      by_cases h3 : kindM T (lookM T 0 p).1 ≠ 2
      · rw [if_pos h3] at h; cases h
      · rw [if_neg h3] at h
        by_cases h4 : (lookM T 0 p).1 = 0
        · rw [if_pos h4] at h; cases h
        · rw [if_neg h4] at h
          by_cases h5 : 0 < (namesM T (lookM T 0 p).1).length
          · rw [if_pos h5] at h; cases h
          · exact ⟨by omega, by omega, by omega, h4, List.eq_nil_of_length_eq_zero (by omega)⟩
theorem OkM.rmdirM {T : TrM} (h : OkM T) (p : List Nm) : OkM (rmdirM T p).2 := by
  unfold Go.Proofs.YtbapdoicejakhaaGreat.rmdirM
  by_cases he : rmdirE T p = 0
  · simp only [if_pos he]
    obtain ⟨h1, h2, h3, h4, h5⟩ := rmdirE_zero he
    obtain ⟨y, hy⟩ := Option.isSome_iff_exists.1 (lookM_there h p 0 (root_there h) h2)
    have hp : p ≠ [] := fun e => by subst e; exact h4 rfl
    obtain ⟨d, x, n, e1, _, hx, hk, hn, _⟩ := place_of_look (id := (lookM T 0 p).1) (Prod.ext rfl h2) hp
    have hyn : y.names = [] := by unfold namesM at h5; rw [hy] at h5; exact h5
    rw [kindM_of hy] at h3
    unfold rmdirOk
    rw [e1]
    refine h.cut_del hx hk hn hy (fun e => ?_) h4 hyn ((h.each _ y hy).dir h3).1
    rw [e, hx] at hy
    cases hy
    rw [hyn] at hn
    cases hn
  · simp only [if_neg he]; exact h
end Go.Proofs.YtbapdoicejakhaaGreat
