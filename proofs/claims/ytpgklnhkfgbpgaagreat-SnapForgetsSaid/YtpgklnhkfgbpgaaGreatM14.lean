/- tree: New; Drop refused. tree: Link. A law's own tree, beside what else is the law's. Marks on blocks: whose they are; a tree whose own blocks bear one mark, and its bytes none. -/
import Derived.Test.YtpgklnhkfgbpgaaGreatM13
namespace Go.Proofs.YtpgklnhkfgbpgaaGreat
open Go.ChangeShapes Go.WideShapes Go.ChangeAt Go.RowKit
set_option linter.unusedVariables false
set_option linter.unusedSimpArgs false

/-- The block of a new tree's head, its map, its first item. -/
def newG (B b : Nat) : Own := if b = B then .items else if b = B + 1 then .item 0 else if b = B + 2 then .names 0 else .none
theorem new_mid {w w1 w2 : World} (hi : ItemAt (fun _ => False) w1 0 (w.heap.size + 1) (w.heap.size + 1 + 1) (freshM 2)) (hb : Below (w.heap.size + 1) (w.alloc (.map #[] 0)) w1) (hs : w.heap.size + 1 + 1 < w1.heap.size)
    (hM : MapAt intK w2 w.heap.size (aput intK.lt 0 (ptr (w.heap.size + 1)) [])) (hT : w1.mapTurned w2 w.heap.size) :
    TreeAt (fun b => if b = w2.heap.size then .head else newG w.heap.size b) (fun _ => False) (w2.alloc (.cells #[.map (some w.heap.size)] 81)) w2.heap.size w.heap.size (fun _ => w.heap.size + 1) (fun _ => w.heap.size + 2) newM ∧ Below w.heap.size w (w2.alloc (.cells #[.map (some w.heap.size)] 81)) := by
  have hsz := turned_size hT
  have hK := turned_keeps hT
  have hw3 : ∀ b, b < w2.heap.size → (w2.alloc (.cells #[.map (some w.heap.size)] 81)).heap[b]? = w2.heap[b]? := fun b hb => Below.heap_alloc _ _ _ hb
  have hget : ∀ k x, aget k newM = some x → k = 0 ∧ x = freshM 2 := fun k x h => by
    unfold newM at h
    rw [aget_cons] at h
    by_cases hk : (0 : Int) = k
    · rw [if_pos hk] at h; exact ⟨hk.symm, by cases h; rfl⟩
    · rw [if_neg hk] at h; cases h
  have hB0 : Below w.heap.size w (w.alloc (.map #[] 0)) := wall w _
  constructor
  · refine ⟨(MapKept.heap_alloc w2 _).1, ?_, fun k x hx => ?_, by simp, ?_, fun k x hx => ?_, fun k x hx _ => ?_, fun _ h => h.elim, fun b hb => ?_, fun _ h => h.elim⟩
    · have := hM.kept (hw3 _ (by omega))
      exact this
    · obtain ⟨rfl, rfl⟩ := hget k x hx
      refine hi.move (by simp; omega) ?_ (fun _ => ?_) (fun _ h => h.elim)
      · rw [hw3 _ (by omega), hK.block _ (by omega) (by omega)]
      · rw [hw3 _ (by omega), hK.block _ (by omega) (by omega)]
    · rw [if_neg (by omega)]; simp [newG]
    · obtain ⟨rfl, rfl⟩ := hget k x hx
      rw [if_neg (by omega)]; simp [newG]
    · obtain ⟨rfl, rfl⟩ := hget k x hx
      rw [if_neg (by omega)]; simp [newG]
    · rw [World.size_alloc]
      by_cases h1 : b = w2.heap.size
      · omega
      · rw [if_neg h1] at hb
        unfold newG at hb
        by_cases h2 : b = w.heap.size
        · omega
        · by_cases h3 : b = w.heap.size + 1
          · omega
          · by_cases h4 : b = w.heap.size + 2
            · omega
            · simp [h2, h3, h4] at hb
  · refine (hB0.trans (hb.mono (by omega))).trans ⟨hK.os, hK.tape, hK.output, by rw [World.size_alloc]; omega, fun b hbw => ?_⟩
    have := hb.size
    rw [World.size_alloc] at this
    rw [hw3 _ (by omega), hK.block _ (by omega) (by omega)]
set_option maxHeartbeats 1000000 in
theorem new_any (w : World) : Calls Tryz.prog 20 #[] w fun e w' => ∃ g mb ib nb p, e = .returned (ptr p) ∧ TreeAt g (fun _ => False) w' p mb ib nb newM ∧ (∀ b, g b ≠ .none → w.heap.size ≤ b) ∧ Below w.heap.size w w' := by
  have hmm := @run_makeMap Tryz.prog
  have HST : Hid (∀ w1, Below (w.heap.size + 1) (w.alloc (.map #[] 0)) w1 → ∃ w2, (Instr.mapUpdate 79 (.map (some w.heap.size)) (.int .i64 0) (ptr (w.heap.size + 1))).run Tryz.prog w1 = .ok () w2 ∧ MapAt intK w2 w.heap.size (aput intK.lt 0 (ptr (w.heap.size + 1)) []) ∧ w1.mapTurned w2 w.heap.size) := fun w1 hb => by
    have hm1 : MapAt intK w1 w.heap.size [] := (MapAt.made (F := intK) w).kept (hb.block _ (by omega))
    exact hm1.store_run intK Tryz.underlying79 (by show 0 < maxLen; unfold maxLen; omega) 0 _ (okInt (by omega) (by omega))
  go_enter Tryz.func20, Tryz.ntmps20
  go_wp2_with fail
  (with_reducible refine (fresh_any _ _ _).mono ?_)
  rintro e w1 ⟨rfl, hi1, hb1, hs1, hs2⟩
  rw [World.size_alloc] at hi1 hb1 hs1 hs2
  obtain ⟨w2, hrun2, hM2, hT2⟩ := HST.out w1 hb1
  have HI1 := Lib.hid hi1
  have HB1 := Lib.hid hb1
  have HM2 := Lib.hid hM2
  have HT2 := Lib.hid hT2
  have hs3 := hs2 rfl
  clear hi1 hb1 hM2 hT2 hs2
  go_wp2_with fail
  go_ret
  obtain ⟨h1, h2⟩ := new_mid HI1.out HB1.out hs3 HM2.out HT2.out
  refine ⟨_, _, _, _, _, rfl, h1, fun b hb => ?_, h2⟩
  have h3 := HB1.out.size
  rw [World.size_alloc] at h3
  have h4 := turned_size HT2.out
  by_cases e1 : b = w2.heap.size
  · omega
  · rw [if_neg e1] at hb
    unfold newG at hb
    by_cases e2 : b = w.heap.size
    · omega
    · by_cases e3 : b = w.heap.size + 1
      · omega
      · by_cases e4 : b = w.heap.size + 2
        · omega
        · simp [e2, e3, e4] at hb
theorem newM_ok : OkM newM := by
  have hget : ∀ k x, aget k newM = some x → k = 0 ∧ x = freshM 2 := fun k x h => by
    unfold newM at h
    rw [aget_cons] at h
    by_cases hk : (0 : Int) = k
    · rw [if_pos hk] at h; exact ⟨hk.symm, by cases h; rfl⟩
    · rw [if_neg hk] at h; cases h
  refine ⟨⟨by simp [newM, ASorted], rfl, fun k x hx => ?_, fun k x hx e he => ?_, by simp [newM], fun k x hx => ?_⟩, fun k x hx hk => ?_⟩
  · obtain ⟨rfl, rfl⟩ := hget k x hx; exact ok1_fresh (.inr rfl)
  · obtain ⟨rfl, rfl⟩ := hget k x hx; cases he
  · obtain ⟨rfl, rfl⟩ := hget k x hx; omega
  · exact absurd (hget k x hx).1 hk

section
variable {g : Nat → Own} {D : Nat → Prop} {p mb : Nat} {ib nb : Int → Nat} {T : TrM}
set_option maxHeartbeats 1000000 in
/-- Drop that is refused. -/
theorem drop_err (id : Int) (hd : dropE T id ≠ 0) (w : World) (h : TreeAt g D w p mb ib nb T) (hid : (Lit.int .i64 id).wf = true) :
    Calls Tryz.prog 59 #[ptr p, .int .i64 id] w (Turn g D w p mb (dropM T id).2 (.int .i64 (dropM T id).1)) := by
  have HH := Lib.hid h
  have hcb : (w.alloc (.cells #[.int .i64 id] 3)).cell? ⟨w.heap.size, 0, none⟩ = some (.int .i64 id) := slice_cell
  have hA := h.below (wall w (.cells #[.int .i64 id] 3)) (Nat.le_refl _)
  by_cases hf : fileE T id = 0
  · obtain ⟨x, hx, hk⟩ := fileE_zero hf
    have HF := Lib.hid (file_ok id hx hk _ hA hid)
    obtain ⟨c0, c1, c2, c3, c4, c5, c7, hiw⟩ := (h.item id x hx).cell
    have hE : dropE T id = if x.closed then 27 else 0 := by unfold dropE; rw [hx]; simp only [if_neg hk]
    cases hcl : x.closed with
    | false => exact absurd (by rw [hE, hcl]; rfl) hd
    | true =>
      have HM : Hid (dropM T id = (27, T)) := by
        unfold dropM
        rw [hE, hcl]; simp only [if_pos]; exact rfl
      rw [hcl] at c5
      clear hE hcl hx hk hf h c7 hA hd
      go_enter Tryz.func59, Tryz.ntmps59
      go_wp2_with fail
      (with_reducible refine HF.out.mono ?_)
      rintro e w1 ⟨rfl, rfl⟩
      go_wp2_with fail
      go_ret
      rw [HM.out]
      exact Turn.same HH.out (wall w _) rfl
  · have hne : (fileE T id == 0) = false := by simpa using hf
    have HF := Lib.hid (file_err id _ rfl hf _ hA hid)
    have HM : Hid (dropM T id = (fileE T id, T)) := by
      unfold dropM
      rw [dropE_err hf, if_neg hf]; exact rfl
    obtain ⟨k, hk⟩ : ∃ k, k = fileE T id := ⟨_, rfl⟩
    rw [← hk] at HF hne HM
    clear hf h hk hA hd
    go_enter Tryz.func59, Tryz.ntmps59
    go_wp2_with fail
    (with_reducible refine HF.out.mono ?_)
    rintro e w1 ⟨rfl, rfl⟩
    go_wp2_with fail
    go_ret
    rw [HM.out]
    exact Turn.same HH.out (wall w _) rfl
end
end Go.Proofs.YtpgklnhkfgbpgaaGreat
namespace Go.Proofs.YtpgklnhkfgbpgaaGreat
open Go.ChangeShapes Go.WideShapes Go.ChangeAt Go.RowKit
set_option linter.unusedVariables false
set_option linter.unusedSimpArgs false

section
variable {g : Nat → Own} {D : Nat → Prop} {p mb : Nat} {ib nb : Int → Nat} {T : TrM}
theorem kindM_of {id : Int} {x : ItM} (hx : aget id T = some x) : kindM T id = x.kind := by unfold kindM; rw [hx]
/-- A name more of a node. -/
theorem OkM.link (h : OkM T) {d id : Int} {x y : ItM} {n : Nm} (hx : aget d T = some x) (hxk : x.kind = 2) (hn : goodL n = true) (hnn : aget n x.names = none) (hy : aget id T = some y) (hyk : y.kind ≠ 2) (hl : y.links < 64) (h0 : id ≠ 0) :
    OkM (Go.Proofs.YtpgklnhkfgbpgaaGreat.amod id (fun x => { x with links := x.links + 1 }) (setName T d n id)) := by
  have hdi : id ≠ d := fun e => by subst e; rw [hx] at hy; cases hy; exact hyk hxk
  have hP := h.toOkP.set (n := n) (id := id) hx hxk hn ⟨by rw [hy]; rfl, h0⟩
  have hy1 : aget id (setName T d n id) = some y := by unfold setName; rw [aget_amod, if_neg hdi]; exact hy
  have hoy := h.each id y hy
  have hk1 : y.kind = 1 := hoy.kind.resolve_right hyk
  have hsame : cn id { y with links := y.links + 1 } = cn id y := rfl
  refine ⟨hP.amod (f := fun x => { x with links := x.links + 1 }) hy1 ⟨hoy.kind, hoy.file, fun h => absurd h hyk, fun h => ?_, hoy.sorted, hoy.good, hoy.size, ?_, hoy.til⟩ rfl (hP.leads id y hy1), fun j z hz hj => ?_⟩
  · have := hoy.links
    have h2 : y.links + 1 = 0 := h
    omega
  · have := hoy.links
    simp only
    omega
  · have h1 := cntM_amod hP.sorted (fun x => { x with links := x.links + 1 }) hy1 j
    have h1' : cn j { y with links := y.links + 1 } = cn j y := rfl
    have h2 := cntM_amod h.sorted (fun x => { x with names := aput bytesBefore n id x.names }) hx j
    have h3 := cn_set (id := id) hnn j
    have e : cntM (Go.Proofs.YtpgklnhkfgbpgaaGreat.amod id (fun x => { x with links := x.links + 1 }) (setName T d n id)) j = cntM T j + if id = j then 1 else 0 := by
      unfold setName at h1 ⊢
      rw [h1'] at h1
      omega
    rw [e]
    rw [aget_amod] at hz
    by_cases hji : j = id
    · subst hji
      rw [if_pos rfl, hy1] at hz
      simp only [Option.map_some, Option.some.injEq] at hz
      rw [← hz, if_pos rfl]
      have := h.counts j y hy hj
      simp only
      omega
    · rw [if_neg hji] at hz
      rw [if_neg (Ne.symm hji)]
      unfold setName at hz
      rw [aget_amod] at hz
      by_cases hjd : j = d
      · subst hjd
        rw [if_pos rfl, hx] at hz
        simp only [Option.map_some, Option.some.injEq] at hz
        have := h.counts j x hx hj
        rw [← hz]
        simp only
        omega
      · rw [if_neg hjd] at hz
        have := h.counts j z hz hj
        omega
theorem lookM_zero {p : List Nm} {id : Int} (h : lookM T 0 p = (id, 0)) (hT : OkM T) : (aget id T).isSome = true := by
  have := lookM_there hT p 0 (root_there hT) (by rw [h])
  rw [h] at this
  exact this

end
end Go.Proofs.YtpgklnhkfgbpgaaGreat
namespace Go.Proofs.YtpgklnhkfgbpgaaGreat
open Go.ChangeShapes Go.WideShapes Go.ChangeAt Go.RowKit
set_option linter.unusedVariables false
set_option linter.unusedSimpArgs false

/-- A node without names that lead to it, and without names, is gone. -/
theorem OkM.del {T : TrM} (h : OkM T) {k : Int} {x : ItM} (hx : aget k T = some x) (h0 : k ≠ 0) (hn : x.names = []) (hc : cntM T k = 0) : OkM (adel k T) := by
  have hget : ∀ j y, aget j (adel k T) = some y → j ≠ k ∧ aget j T = some y := fun j y hy => by
    rw [aget_adel] at hy
    by_cases hj : j = k
    · rw [if_pos hj] at hy; cases hy
    · rw [if_neg hj] at hy; exact ⟨hj, hy⟩
  have hcn : ∀ j, cn j x = 0 := fun j => by unfold cn; rw [hn]; rfl
  refine ⟨⟨h.sorted.adel _, ?_, fun j y hy => h.each j y (hget j y hy).2, fun j y hy e he => ?_, ?_, fun j y hy => h.ids j y (hget j y hy).2⟩, fun j y hy hj => ?_⟩
  · have hr := h.root
    unfold kindM at hr ⊢
    rw [aget_adel, if_neg (Ne.symm h0)]
    exact hr
  · have h1 := h.leads j y (hget j y hy).2 e he
    have h2 := cn_zero hc (hget j y hy).2 e he
    rw [aget_adel, if_neg h2]
    exact h1
  · have := length_adel iltLaws h.sorted hx
    have := h.len
    omega
  · have h1 := cntM_adel h.sorted hx j
    rw [hcn] at h1
    have h2 := h.counts j y (hget j y hy).2 hj
    omega
theorem OkM.settle {T : TrM} (h : OkM T) {k : Int} (hk : k ≠ 0) (hf : ∀ x, aget k T = some x → x.kind ≠ 2) : OkM (settleM T k) := by
  unfold settleM
  cases hx : aget k T with
  | none => exact h
  | some x =>
    simp only
    by_cases hc : x.links = 0 ∧ x.closed = true
    · rw [if_pos hc]
      have hk1 := (h.each k x hx).kind.resolve_right (hf x hx)
      refine h.del hx hk ((h.each k x hx).file hk1) ?_
      have := h.counts k x hx hk
      omega
    · rw [if_neg hc]; exact h
theorem OkM.file_ne {T : TrM} (h : OkM T) {k : Int} {x : ItM} (hx : aget k T = some x) (hk : x.kind ≠ 2) : k ≠ 0 := by
  rintro rfl
  have := h.root
  unfold kindM at this
  rw [hx] at this
  exact hk this
theorem makeE_zero {T : TrM} (hT : OkM T) {ls : List Nm} {kind : Int} (h : makeE T ls kind = 0) : fineL ls = 0 ∧ (kind = 1 ∨ kind = 2) ∧ (placeM T ls).2.2 = 0 ∧ aget (placeM T ls).2.1 (namesM T (placeM T ls).1) = none ∧ T.length < 64 := by
  unfold makeE at h
  by_cases h1 : fineL ls ≠ 0
  · rw [if_pos h1] at h; exact absurd h h1
  · rw [if_neg h1] at h
    by_cases h2 : ¬ (kind = 1 ∨ kind = 2)
    · rw [if_pos h2] at h; cases h
    · rw [if_neg h2] at h
      by_cases h3 : (placeM T ls).2.2 ≠ 0
      · rw [if_pos h3] at h; exact absurd h h3
      · rw [if_neg h3] at h
        by_cases h4 : (aget (placeM T ls).2.1 (namesM T (placeM T ls).1)).isSome = true
        · rw [if_pos h4] at h; cases h
        · rw [if_neg h4] at h
          by_cases h5 : 64 ≤ T.length
          · rw [if_pos h5] at h; cases h
          · exact ⟨by omega, Decidable.not_not.1 h2, by omega, by simpa using h4, by omega⟩
theorem OkM.makeM {T : TrM} (h : OkM T) (ls : List Nm) (kind : Int) : OkM (makeM T ls kind).2 := by
  unfold Go.Proofs.YtpgklnhkfgbpgaaGreat.makeM
  by_cases he : makeE T ls kind = 0
  · rw [if_pos he]
    obtain ⟨h1, h2, h3, h4, h5⟩ := makeE_zero h he
    obtain ⟨x, hx, hk, hm⟩ := placeM_spec h h3
    obtain ⟨f, hf, hf1, hf2, hfn, _⟩ := h.free
    have e1 : namesM T (placeM T ls).1 = x.names := by unfold namesM; rw [hx]
    rw [e1] at h4
    have hlen := h.len
    show OkM (makeOk T ls kind)
    unfold makeOk
    rw [hf]
    exact h.make h2 hfn (by omega) (by omega) h5 hx hk (fineL_good h1 _ hm) h4
  · rw [if_neg he]; exact h
theorem OkM.appendM {T : TrM} (h : OkM T) (id : Int) (b : List UInt8) : OkM (appendM T id b).2 := by
  unfold Go.Proofs.YtpgklnhkfgbpgaaGreat.appendM
  by_cases he : appendE T id b = 0
  · simp only [if_pos he]
    unfold appendE at he
    cases hx : aget id T with
    | none => rw [hx] at he; cases he
    | some x =>
      rw [hx] at he
      simp only at he
      by_cases hk : x.kind = 2
      · rw [if_pos hk] at he; cases he
      · rw [if_neg hk] at he
        cases hc : x.closed with
        | true => rw [hc] at he; cases he
        | false =>
          rw [hc] at he
          simp only [Bool.false_eq_true, if_false] at he
          by_cases hb : 4096 < x.b.length + b.length
          · rw [if_pos hb] at he; cases he
          · have ho := h.each id x hx
            exact h.amod_same hx ⟨ho.kind, ho.file, fun h => absurd h hk, fun _ => hc, ho.sorted, ho.good, by rw [List.length_append]; omega, ho.links, ho.til⟩ rfl rfl rfl
  · simp only [if_neg he]; exact h
theorem OkM.sealM {T : TrM} (h : OkM T) (id til : Int) (h0 : 0 ≤ til) : OkM (sealM T id til).2 := by
  unfold Go.Proofs.YtpgklnhkfgbpgaaGreat.sealM
  by_cases he : sealE T id til = 0
  · simp only [if_pos he]
    unfold sealE at he
    cases hx : aget id T with
    | none => rw [hx] at he; cases he
    | some x =>
      rw [hx] at he
      simp only at he
      by_cases hk : x.kind = 2
      · rw [if_pos hk] at he; cases he
      · rw [if_neg hk] at he
        cases hc : x.closed with
        | true => rw [hc] at he; cases he
        | false =>
          rw [hc] at he
          simp only [Bool.false_eq_true, if_false] at he
          by_cases hb : 1099511627776 < til
          · rw [if_pos hb] at he; cases he
          · have ho := h.each id x hx
            have hk1 := ho.kind.resolve_right hk
            have hcnt := h.counts id x hx (h.file_ne hx hk)
            by_cases hl : x.links = 0
            · have hn := ho.file hk1
              have e : settleM (Go.Proofs.YtpgklnhkfgbpgaaGreat.amod id (fun x => { x with closed := true, til := til }) T) id = adel id T := by
                unfold settleM
                rw [aget_amod, if_pos rfl, hx]
                simp only [Option.map_some, hl, and_self, if_true]
                unfold adel Go.Proofs.YtpgklnhkfgbpgaaGreat.amod
                clear hx ho hcnt he h
                induction T with
                | nil => rfl
                | cons y r ih =>
                  rw [List.map_cons, List.filter_cons, List.filter_cons, ih]
                  by_cases hy : y.1 = id <;> simp [hy]
              rw [e]
              exact h.del hx (h.file_ne hx hk) hn (by omega)
            · have hs : OkM (Go.Proofs.YtpgklnhkfgbpgaaGreat.amod id (fun x => { x with closed := true, til := til }) T) :=
                h.amod_same hx ⟨ho.kind, ho.file, fun h => absurd h hk, fun h => absurd h hl, ho.sorted, ho.good, ho.size, ho.links, ⟨h0, by simp only; omega⟩⟩ rfl rfl rfl
              exact hs.settle (h.file_ne hx hk) (fun y hy => by
                rw [aget_amod, if_pos rfl, hx] at hy
                simp only [Option.map_some, Option.some.injEq] at hy
                rw [← hy]
                exact hk)
  · simp only [if_neg he]; exact h
theorem OkM.keepM {T : TrM} (h : OkM T) (id til : Int) (h0 : 0 ≤ til) : OkM (keepM T id til).2 := by
  unfold Go.Proofs.YtpgklnhkfgbpgaaGreat.keepM
  by_cases he : keepE T id til = 0
  · simp only [if_pos he]
    unfold keepE at he
    cases hx : aget id T with
    | none => rw [hx] at he; cases he
    | some x =>
      rw [hx] at he
      simp only at he
      by_cases hk : x.kind = 2
      · rw [if_pos hk] at he; cases he
      · rw [if_neg hk] at he
        by_cases hc : x.closed = false
        · rw [if_pos hc] at he; cases he
        · rw [if_neg hc] at he
          by_cases hb : til < x.til
          · rw [if_pos hb] at he; cases he
          · rw [if_neg hb] at he
            by_cases hb : 1099511627776 < til
            · rw [if_pos hb] at he; cases he
            · have ho := h.each id x hx
              exact h.amod_same hx ⟨ho.kind, ho.file, fun h => absurd h hk, ho.gone, ho.sorted, ho.good, ho.size, ho.links, ⟨h0, by simp only; omega⟩⟩ rfl rfl rfl
  · simp only [if_neg he]; exact h
theorem linkE_zero {T : TrM} {p to : List Nm} (h : linkE T p to = 0) : fine2 p to = 0 ∧ (lookM T 0 p).2 = 0 ∧ kindM T (lookM T 0 p).1 ≠ 2 ∧ (placeM T to).2.2 = 0 ∧ aget (placeM T to).2.1 (namesM T (placeM T to).1) = none ∧ linksM T (lookM T 0 p).1 < 64 := by
  unfold linkE at h
  by_cases h1 : fine2 p to ≠ 0
  · rw [if_pos h1] at h; exact absurd h h1
  · rw [if_neg h1] at h
    by_cases h2 : (lookM T 0 p).2 ≠ 0
    · rw [if_pos h2] at h; exact absurd h h2
    · rw [if_neg h2] at h
      by_cases h3 : kindM T (lookM T 0 p).1 = 2
      · rw [if_pos h3] at h; cases h
      · rw [if_neg h3] at h
        by_cases h4 : (placeM T to).2.2 ≠ 0
        · rw [if_pos h4] at h; exact absurd h h4
        · rw [if_neg h4] at h
          by_cases h5 : (aget (placeM T to).2.1 (namesM T (placeM T to).1)).isSome = true
          · rw [if_pos h5] at h; cases h
          · rw [if_neg h5] at h
            by_cases h6 : 64 ≤ linksM T (lookM T 0 p).1
            · rw [if_pos h6] at h; cases h
            · exact ⟨by omega, by omega, h3, by omega, by simpa using h5, by omega⟩
theorem fine2_zero {p q : List Nm} (h : fine2 p q = 0) : fineL p = 0 ∧ fineL q = 0 := by
  unfold fine2 at h
  split at h
  · rename_i h1; exact absurd h h1
  · exact ⟨by omega, h⟩
theorem OkM.linkM {T : TrM} (h : OkM T) (p to : List Nm) : OkM (linkM T p to).2 := by
  unfold Go.Proofs.YtpgklnhkfgbpgaaGreat.linkM
  by_cases he : linkE T p to = 0
  · simp only [if_pos he]
    obtain ⟨h1, h2, h3, h4, h5, h6⟩ := linkE_zero he
    obtain ⟨x, hx, hk, hm⟩ := placeM_spec h h4
    obtain ⟨y, hy⟩ := Option.isSome_iff_exists.1 (lookM_there h p 0 (root_there h) h2)
    have e1 : namesM T (placeM T to).1 = x.names := by unfold namesM; rw [hx]
    have e2 : linksM T (lookM T 0 p).1 = y.links := by unfold linksM; rw [hy]
    rw [e1] at h5
    rw [e2] at h6
    rw [kindM_of hy] at h3
    exact h.link hx hk (fineL_good (fine2_zero h1).2 _ hm) h5 hy h3 h6 (h.file_ne hy h3)
  · simp only [if_neg he]; exact h

/-- New since W, and none of P. -/
def Wild (W : World) (P : Nat → Prop) (x : Nat) : Prop := W.heap.size ≤ x ∧ ¬ P x
structure TreeIn (W : World) (P : Nat → Prop) (w : World) (p : Nat) (T : TrM) : Prop where
  at_ : ∃ g D mb ib nb, TreeAt g D w p mb ib nb T ∧ ∀ b, g b ≠ .none ∨ D b → W.heap.size ≤ b ∧ ¬ P b
  ok : OkM T
  below : Below W.heap.size W w
  low : ∀ x, P x → x < w.heap.size
theorem TreeIn.grow {W w w' : World} {P : Nat → Prop} {p : Nat} {T : TrM} (h : TreeIn W P w p T) (hb : Below w.heap.size w w') : TreeIn W P w' p T := by
  obtain ⟨g, D, mb, ib, nb, hA, hF⟩ := h.at_
  exact ⟨⟨g, D, mb, ib, nb, hA.below hb (Nat.le_refl _), hF⟩, h.ok, h.below.trans (hb.mono h.below.size), fun x hx => Nat.lt_of_lt_of_le (h.low x hx) hb.size⟩
/-- What is new is shielded from now on. -/
theorem TreeIn.shield {W w w' : World} {P : Nat → Prop} {p : Nat} {T : TrM} (h : TreeIn W P w p T) (hb : Below w.heap.size w w') : TreeIn W (fun x => P x ∨ (w.heap.size ≤ x ∧ x < w'.heap.size)) w' p T := by
  have h1 := h.grow hb
  obtain ⟨g, D, mb, ib, nb, hA, hF⟩ := h.at_
  refine ⟨⟨g, D, mb, ib, nb, hA.below hb (Nat.le_refl _), fun x hx => ⟨(hF x hx).1, fun hp => ?_⟩⟩, h.ok, h1.below, fun x hx => ?_⟩
  · rcases hp with hp | hp
    · exact (hF x hx).2 hp
    · rcases hx with hx | hx
      · have := hA.low x hx; omega
      · have := hA.dlow x hx; omega
  · rcases hx with hx | hx
    · exact h1.low x hx
    · exact hx.2
theorem TreeIn.mono {W w : World} {P Q : Nat → Prop} {p : Nat} {T : TrM} (h : TreeIn W P w p T) (hq : ∀ x, Q x → P x) : TreeIn W Q w p T := by
  obtain ⟨g, D, mb, ib, nb, hA, hF⟩ := h.at_
  exact ⟨⟨g, D, mb, ib, nb, hA, fun x hx => ⟨(hF x hx).1, fun h => (hF x hx).2 (hq x h)⟩⟩, h.ok, h.below, fun x hx => h.low x (hq x hx)⟩
/-- Turned, and nothing else of the law's. -/
def InTurned (W : World) (P : Nat → Prop) (w : World) (p : Nat) (T : TrM) (v : Value) (e : Ending) (w' : World) : Prop :=
  e = .returned v ∧ TreeIn W P w' p T ∧ Keeps (Wild W P) w w'
theorem TreeIn.of_turn {W w w' : World} {P : Nat → Prop} {p mb : Nat} {T' : TrM} {v : Value} {e : Ending} {g : Nat → Own} {D : Nat → Prop} (hF : ∀ b, g b ≠ .none ∨ D b → W.heap.size ≤ b ∧ ¬ P b) (hB : Below W.heap.size W w) (hP : ∀ x, P x → x < w.heap.size) (ht : Turn g D w p mb T' v e w') (hok : OkM T') : InTurned W P w p T' v e w' := by
  obtain ⟨rfl, g', D', ib', nb', hA', hg', hD', hK⟩ := ht
  have hs := hB.size
  refine ⟨rfl, ⟨⟨g', D', mb, ib', nb', hA', fun b hb => ?_⟩, hok, hB.trans (hK.to_below hs fun x hx hgx => by have := (hF x (.inl hgx)).1; omega), fun x hx => Nat.lt_of_lt_of_le (hP x hx) hK.size⟩, hK.mono fun x _ hx => hF x (.inl hx)⟩
  have key : (g b ≠ .none ∨ D b) ∨ w.heap.size ≤ b := by
    rcases hb with hb | hb
    · rcases hg' b hb with h | h
      · exact .inl (.inl h)
      · exact .inr h
    · rcases hD' b hb with h | h
      · exact .inl (.inr h)
      · exact .inr h
  rcases key with h | h
  · exact hF b h
  · exact ⟨by omega, fun hp => by have := hP b hp; omega⟩

section
variable {W w : World} {P : Nat → Prop} {p : Nat} {T : TrM}
theorem in_make {S : Nat → Prop} (h : TreeIn W P w p T) (a : Option Addr) (n c : Nat) (ls : List Nm) (kind : Int) (hS : StrsAt S w a n (ls.map strOf)) (hc : n ≤ c) (hn8 : n ≤ 1000000) :
    Calls Tryz.prog 11 #[ptr p, .slice a n c, .int .i64 kind] w (InTurned W P w p (makeM T ls kind).2 (.tuple #[.int .i64 (makeM T ls kind).1.1, .int .i64 (makeM T ls kind).1.2])) := by
  obtain ⟨g, D, mb, ib, nb, hA, hF⟩ := h.at_
  exact (make_at a n c ls kind w hA h.ok hS hc hn8).mono fun e w' ht => TreeIn.of_turn hF h.below h.low ht (h.ok.makeM _ _)
theorem in_append {S : Nat → Prop} (h : TreeIn W P w p T) (id : Int) (a : Option Addr) (l c : Nat) (bs : List UInt8) (hid : (Lit.int .i64 id).wf = true) (hr : RowAt S w a l (bs.map bv)) (hl : l ≤ 1000000000) :
    Calls Tryz.prog 37 #[ptr p, .int .i64 id, .slice a l c] w (InTurned W P w p (appendM T id bs).2 (.int .i64 (appendM T id bs).1)) := by
  obtain ⟨g, D, mb, ib, nb, hA, hF⟩ := h.at_
  exact (append_at id a l c bs w hA (fun x hx => (h.ok.each id x hx).size) hid hr hl).mono fun e w' ht => TreeIn.of_turn hF h.below h.low ht (h.ok.appendM _ _)
theorem in_seal (h : TreeIn W P w p T) (id til : Int) (hid : (Lit.int .i64 id).wf = true) (ht0 : 0 ≤ til) (ht1 : til ≤ 18446744073709551615) :
    Calls Tryz.prog 12 #[ptr p, .int .i64 id, .int .u64 til] w (InTurned W P w p (sealM T id til).2 (.int .i64 (sealM T id til).1)) := by
  obtain ⟨g, D, mb, ib, nb, hA, hF⟩ := h.at_
  exact (seal_at id til w hA hid ht0 ht1).mono fun e w' ht => TreeIn.of_turn hF h.below h.low ht (h.ok.sealM _ _ ht0)
theorem in_drop_err (h : TreeIn W P w p T) (id : Int) (hd : dropE T id ≠ 0) (hid : (Lit.int .i64 id).wf = true) :
    Calls Tryz.prog 59 #[ptr p, .int .i64 id] w (InTurned W P w p T (.int .i64 (dropE T id))) := by
  obtain ⟨g, D, mb, ib, nb, hA, hF⟩ := h.at_
  have := drop_err id hd w hA hid
  unfold dropM at this
  rw [if_neg hd] at this
  exact this.mono fun e w' ht => TreeIn.of_turn hF h.below h.low ht h.ok
theorem in_node (h : TreeIn W P w p T) (id : Int) (hid : (Lit.int .i64 id).wf = true) :
    Calls Tryz.prog 92 #[ptr p, .int .i64 id] w fun e w' => e = .returned (.tuple #[nodeM T id, .bool (aget id T).isSome]) ∧ Below w.heap.size w w' := by
  obtain ⟨g, D, mb, ib, nb, hAt, hF⟩ := h.at_
  exact node_any id w hAt hid
theorem in_new (W w : World) (hB : Below W.heap.size W w) : Calls Tryz.prog 20 #[] w fun e w' => ∃ p, e = .returned (ptr p) ∧ TreeIn W (fun x => x < w.heap.size) w' p newM ∧ Below w.heap.size w w' := by
  refine (new_any w).mono ?_
  rintro e w' ⟨g, mb, ib, nb, p, rfl, hA, hg, hb⟩
  have hs := hB.size
  refine ⟨p, rfl, ⟨⟨g, _, mb, ib, nb, hA, fun b hb => ?_⟩, newM_ok, hB.trans (hb.mono hs), fun x hx => Nat.lt_of_lt_of_le hx hb.size⟩, hb⟩
  rcases hb with hb | hb
  · have := hg b hb; omega
  · exact hb.elim
end
end Go.Proofs.YtpgklnhkfgbpgaaGreat
namespace Go.Proofs.YtpgklnhkfgbpgaaGreat
open Go.ChangeShapes Go.WideShapes Go.ChangeAt Go.RowKit
set_option linter.unusedVariables false
set_option linter.unusedSimpArgs false

abbrev Mark := Nat → Nat
/-- What bears a mark is new, and there. -/
structure Marks (W : World) (o : Mark) (w : World) : Prop where
  new : ∀ b, o b ≠ 0 → W.heap.size ≤ b ∧ b < w.heap.size
  below : Below W.heap.size W w
/-- Only what bears some marks is turned, and what is new bears one of them or none. -/
structure Step (o : Mark) (I : Nat → Prop) (w : World) (o' : Mark) (w' : World) : Prop where
  old : ∀ b, b < w.heap.size → o' b = o b
  new : ∀ b, w.heap.size ≤ b → o' b ≠ 0 → I (o' b) ∧ b < w'.heap.size
  keep : Keeps (fun b => I (o b)) w w'
theorem Marks.step {W w w' : World} {o o' : Mark} {I : Nat → Prop} (h : Marks W o w) (hi : ¬ I 0) (hs : Step o I w o' w') : Marks W o' w' := by
  refine ⟨fun b hb => ?_, h.below.trans (hs.keep.to_below h.below.size fun x hx (hxi : I (o x)) => ?_)⟩
  · by_cases hlt : b < w.heap.size
    · rw [hs.old b hlt] at hb
      exact ⟨(h.new b hb).1, Nat.lt_of_lt_of_le hlt hs.keep.size⟩
    · have h1 := (hs.new b (by omega) hb).2
      have := h.below.size
      exact ⟨by omega, h1⟩
  · have h0 : o x ≠ 0 := fun e => hi (by rw [e] at hxi; exact hxi)
    have := (h.new x h0).1
    omega
theorem Marks.grow {W w w' : World} {o : Mark} (h : Marks W o w) (hb : Below w.heap.size w w') : Marks W o w' :=
  ⟨fun b hn => ⟨(h.new b hn).1, Nat.lt_of_lt_of_le (h.new b hn).2 hb.size⟩, h.below.trans (hb.mono h.below.size)⟩
theorem Step.mono {w w' : World} {o o' : Mark} {I J : Nat → Prop} (h : Step o I w o' w') (hIJ : ∀ i, I i → J i) : Step o J w o' w' :=
  ⟨h.old, fun b hb hn => ⟨hIJ _ (h.new b hb hn).1, (h.new b hb hn).2⟩, h.keep.mono fun x _ hx => hIJ _ hx⟩
theorem Step.grow {W w w' : World} {o : Mark} {I : Nat → Prop} (h : Marks W o w) (hb : Below w.heap.size w w') : Step o I w o w' :=
  ⟨fun _ _ => rfl, fun b hb hn => by have := (h.new b hn).2; omega, (Keeps.below hb).mono fun x hx hx' => absurd hx (by omega)⟩
theorem Step.trans {w w1 w2 : World} {o o1 o2 : Mark} {I : Nat → Prop} (h : Step o I w o1 w1) (k : Step o1 I w1 o2 w2) : Step o I w o2 w2 := by
  have hs := h.keep.size
  refine ⟨fun b hb => (k.old b (by omega)).trans (h.old b hb), fun b hb hn => ?_, h.keep.trans k.keep fun x hx (hxi : I (o1 x)) => by rw [h.old x hx] at hxi; exact hxi⟩
  by_cases hlt : b < w1.heap.size
  · rw [k.old b hlt] at hn ⊢
    exact ⟨(h.new b hb hn).1, Nat.lt_of_lt_of_le (h.new b hb hn).2 k.keep.size⟩
  · exact k.new b (by omega) hn
theorem Step.then_ {W w w1 w2 : World} {o o1 : Mark} {I : Nat → Prop} (hM : Marks W o w) (hi : ¬ I 0) (h : Step o I w o1 w1) (hb : Below w1.heap.size w1 w2) : Step o I w o1 w2 := h.trans (Step.grow (hM.step hi h) hb)
theorem Step.behind {W w w1 w2 : World} {o o2 : Mark} {I : Nat → Prop} (hM : Marks W o w) (hb : Below w.heap.size w w1) (h : Step o I w1 o2 w2) : Step o I w o2 w2 := (Step.grow hM hb).trans h
/-- What is not of these marks lies as it lay. -/
theorem Step.block {w w' : World} {o o' : Mark} {I : Nat → Prop} (h : Step o I w o' w') {b : Nat} (hb : b < w.heap.size) (hn : ¬ I (o b)) : w'.heap[b]? = w.heap[b]? := h.keep.block b hb hn

/-- Nobody's, and there. -/
def Free (o : Mark) (w : World) (b : Nat) : Prop := o b = 0 ∧ b < w.heap.size
theorem RowAt.free {o o' : Mark} {I : Nat → Prop} {w w' : World} {a : Option Addr} {n : Nat} {vs : List Value} (h : RowAt (Free o w) w a n vs) (hi : ¬ I 0) (hs : Step o I w o' w') : RowAt (Free o' w') w' a n vs :=
  h.move hs.keep.size fun b hb hbw => ⟨⟨(hs.old b hb.2).trans hb.1, Nat.lt_of_lt_of_le hb.2 hs.keep.size⟩, hs.block hb.2 (by rw [hb.1]; exact hi)⟩
theorem RowAt.new_free {W w w' : World} {o : Mark} {a : Option Addr} {n : Nat} {vs : List Value} (hM : Marks W o w) (h : RowAt (fun x => w.heap.size ≤ x ∧ x < w'.heap.size) w' a n vs) : RowAt (Free o w') w' a n vs :=
  h.mono fun b hb => ⟨Decidable.byContradiction fun h0 => by have := (hM.new b h0).2; omega, hb.2⟩
/-- A tree whose own blocks bear a mark. -/
def TreeO (o : Mark) (i : Nat) (w : World) (p : Nat) (T : TrM) : Prop :=
  ∃ g D mb ib nb, TreeAt g D w p mb ib nb T ∧ (∀ b, g b ≠ .none → o b = i) ∧ (∀ b, D b → o b = 0)
theorem TreeO.step {o o' : Mark} {I : Nat → Prop} {j : Nat} {w w' : World} {p : Nat} {T : TrM} (h : TreeO o j w p T) (hi : ¬ I 0) (hij : ¬ I j) (hs : Step o I w o' w') : TreeO o' j w' p T := by
  obtain ⟨g, D, mb, ib, nb, hA, hg, hD⟩ := h
  refine ⟨g, D, mb, ib, nb, hA.keeps hs.keep fun b hb => ?_, fun b hb => (hs.old b (hA.low b hb)).trans (hg b hb), fun b hb => (hs.old b (hA.dlow b hb)).trans (hD b hb)⟩
  rcases hb with hb | hb
  · rw [hg b hb]; exact hij
  · rw [hD b hb]; exact hi
theorem TreeO.grow {o : Mark} {j : Nat} {w w' : World} {p : Nat} {T : TrM} (h : TreeO o j w p T) (hb : Below w.heap.size w w') : TreeO o j w' p T := by
  obtain ⟨g, D, mb, ib, nb, hA, hg, hD⟩ := h
  exact ⟨g, D, mb, ib, nb, hA.below hb (Nat.le_refl _), hg, hD⟩
theorem TreeO.remark {o o' : Mark} {j k : Nat} {w : World} {p : Nat} {T : TrM} (h : TreeO o j w p T) (h1 : ∀ b, b < w.heap.size → o b = j → o' b = k) (h2 : ∀ b, b < w.heap.size → o b = 0 → o' b = 0) : TreeO o' k w p T := by
  obtain ⟨g, D, mb, ib, nb, hA, hg, hD⟩ := h
  exact ⟨g, D, mb, ib, nb, hA, fun b hb => h1 b (hA.low b hb) (hg b hb), fun b hb => h2 b (hA.dlow b hb) (hD b hb)⟩
/-- Turned, and nothing else. -/
def OTurned (o : Mark) (i : Nat) (w : World) (p : Nat) (T' : TrM) (v : Value) (e : Ending) (w' : World) : Prop :=
  e = .returned v ∧ ∃ o', Step o (fun j => j = i) w o' w' ∧ TreeO o' i w' p T'
open Classical in
theorem OTurned.of {W w w' : World} {o : Mark} {i p mb : Nat} {T' : TrM} {v : Value} {e : Ending} {g : Nat → Own} {D : Nat → Prop} (hM : Marks W o w) (hi : i ≠ 0) (hg : ∀ b, g b ≠ .none → o b = i) (hD : ∀ b, D b → o b = 0) (ht : Turn g D w p mb T' v e w') : OTurned o i w p T' v e w' := by
  obtain ⟨rfl, g', D', ib', nb', hA', hg', hD', hK⟩ := ht
  obtain ⟨o', ho⟩ : ∃ o' : Mark, ∀ b, o' b = if b < w.heap.size then o b else if g' b ≠ .none then i else 0 := ⟨_, fun _ => rfl⟩
  refine ⟨rfl, o', ⟨fun b hb => by rw [ho, if_pos hb], fun b hb hn => ?_, hK.mono fun x _ hx => hg x hx⟩, g', D', mb, ib', nb', hA', fun b hb => ?_, fun b hb => ?_⟩
  · rw [ho, if_neg (by omega)] at hn ⊢
    by_cases h : g' b ≠ .none
    · rw [if_pos h]; exact ⟨rfl, hA'.low b h⟩
    · rw [if_neg h] at hn; exact absurd rfl hn
  · rw [ho]
    by_cases hlt : b < w.heap.size
    · rw [if_pos hlt]
      rcases hg' b hb with h | h
      · exact hg b h
      · omega
    · rw [if_neg hlt, if_pos hb]
  · rw [ho]
    by_cases hlt : b < w.heap.size
    · rw [if_pos hlt]
      rcases hD' b hb with h | h
      · exact hD b h
      · omega
    · rw [if_neg hlt, if_neg (by rw [hA'.data b hb]; simp)]
section
variable {W w : World} {o : Mark} {i p : Nat} {T : TrM}
theorem om_make {S : Nat → Prop} (h : TreeO o i w p T) (hM : Marks W o w) (hi : i ≠ 0) (hT : OkM T) (a : Option Addr) (n c : Nat) (ls : List Nm) (kind : Int) (hS : StrsAt S w a n (ls.map strOf)) (hc : n ≤ c) (hn8 : n ≤ 1000000) :
    Calls Tryz.prog 11 #[ptr p, .slice a n c, .int .i64 kind] w (OTurned o i w p (makeM T ls kind).2 (.tuple #[.int .i64 (makeM T ls kind).1.1, .int .i64 (makeM T ls kind).1.2])) := by
  obtain ⟨g, D, mb, ib, nb, hA, hg, hD⟩ := h
  exact (make_at a n c ls kind w hA hT hS hc hn8).mono fun e w' ht => OTurned.of hM hi hg hD ht
theorem om_append {S : Nat → Prop} (h : TreeO o i w p T) (hM : Marks W o w) (hi : i ≠ 0) (hT : OkM T) (id : Int) (a : Option Addr) (l c : Nat) (bs : List UInt8) (hid : (Lit.int .i64 id).wf = true) (hr : RowAt S w a l (bs.map bv)) (hl : l ≤ 1000000000) :
    Calls Tryz.prog 37 #[ptr p, .int .i64 id, .slice a l c] w (OTurned o i w p (appendM T id bs).2 (.int .i64 (appendM T id bs).1)) := by
  obtain ⟨g, D, mb, ib, nb, hA, hg, hD⟩ := h
  exact (append_at id a l c bs w hA (fun x hx => (hT.each id x hx).size) hid hr hl).mono fun e w' ht => OTurned.of hM hi hg hD ht
end
end Go.Proofs.YtpgklnhkfgbpgaaGreat
