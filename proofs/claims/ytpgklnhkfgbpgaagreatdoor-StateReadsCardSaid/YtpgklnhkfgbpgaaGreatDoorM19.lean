/- Names that go: what holds of a tree behind Unlink, Rmdir; where a path's name stands. -/
import Derived.Test.YtpgklnhkfgbpgaaGreatDoorM15
namespace Go.Proofs.YtpgklnhkfgbpgaaGreatDoor
open Go.ChangeShapes Go.WideShapes Go.ChangeAt Go.RowKit
set_option linter.unusedVariables false
set_option linter.unusedSimpArgs false

theorem lookM_append (T : TrM) : ∀ (p q : List Nm) (a : Int), lookM T a (p ++ q) = if (lookM T a p).2 = 0 then lookM T (lookM T a p).1 q else lookM T a p
  | [], q, a => by simp [lookM]
  | n :: r, q, a => by
    rcases Option.eq_none_or_eq_some (aget a T) with hx | ⟨x, hx⟩
    · simp [lookM, hx]
    · by_cases hk : x.kind = 2
      · rcases Option.eq_none_or_eq_some (aget n x.names) with hn | ⟨k, hn⟩
        · simp [lookM, hx, hk, hn]
        · simp only [List.cons_append, lookM, hx, if_pos hk, hn]
          exact lookM_append T r q k
      · simp [lookM, hx, hk]
/-- Where a path's last name stands. -/
theorem place_of_look {T : TrM} {p : List Nm} {id : Int} (h : lookM T 0 p = (id, 0)) (hp : p ≠ []) : ∃ d x n, placeM T p = (d, n, 0) ∧ lookM T 0 p.dropLast = (d, 0) ∧ aget d T = some x ∧ x.kind = 2 ∧ aget n x.names = some id ∧ n ∈ p ∧ p = p.dropLast ++ [n] := by
  obtain ⟨q, n, rfl⟩ : ∃ q n, p = q ++ [n] := ⟨p.dropLast, p.getLast hp, (List.dropLast_concat_getLast hp).symm⟩
  rw [lookM_append] at h
  have hd : (q ++ [n]).dropLast = q := by simp
  have hl : (q ++ [n]).getLastD [] = n := by simp [List.getLastD_eq_getLast?]
  by_cases he : (lookM T 0 q).2 = 0
  · rw [if_pos he] at h
    obtain ⟨⟨d, e0⟩, hq⟩ : ∃ r, r = lookM T 0 q := ⟨_, rfl⟩
    rw [← hq] at h he
    simp only at he
    subst he
    simp only [lookM] at h
    cases hx : aget d T with
    | none => rw [hx] at h; cases h
    | some x =>
      rw [hx] at h
      simp only at h
      by_cases hk : x.kind = 2
      · rw [if_pos hk] at h
        cases hn : aget n x.names with
        | none => rw [hn] at h; cases h
        | some k =>
          rw [hn] at h
          simp only [Prod.mk.injEq, and_true] at h
          subst h
          refine ⟨d, x, n, ?_, by rw [hd, ← hq], hx, hk, hn, by simp, by rw [hd]⟩
          unfold placeM
          rw [if_neg hp, hd, hl, ← hq, if_neg (by simp), if_pos ((kindM_of hx).trans hk)]
      · rw [if_neg hk] at h; cases h
  · rw [if_neg he] at h
    rw [h] at he
    exact absurd rfl he
theorem cnt_adel {α : Type} {κ : Type} [DecidableEq κ] {lt : κ → κ → Bool} (L : LtLaws lt) (P : κ × α → Bool) {l : List (κ × α)} (hs : ASorted lt l) {k : κ} {v : α} (hg : aget k l = some v) : (adel k l).countP P + (if P (k, v) then 1 else 0) = l.countP P := by
  induction l with
  | nil => cases hg
  | cons y r ih =>
    have hp := hs.apart L
    obtain ⟨h1, h2⟩ := List.pairwise_cons.1 hp
    rw [aget_cons] at hg
    have hcons : adel k (y :: r) = if y.1 = k then adel k r else y :: adel k r := by
      unfold adel
      rw [List.filter_cons]
      by_cases hy : y.1 = k <;> simp [hy]
    rw [hcons]
    by_cases hy : y.1 = k
    · rw [if_pos hy] at hg
      rw [if_pos hy]
      cases hg
      have hr : adel k r = r := by
        unfold adel
        rw [List.filter_eq_self]
        intro q hq
        have := h1 q hq
        simp only [Bool.not_eq_true', decide_eq_false_iff_not]
        exact fun e => this (hy.trans e.symm)
      have e : (k, y.2) = y := by rw [← hy]
      rw [hr, List.countP_cons, e]
    · rw [if_neg hy] at hg
      rw [if_neg hy, List.countP_cons, List.countP_cons]
      have := ih (List.pairwise_cons.1 hs).2 hg
      omega
theorem cn_cut {x : ItM} (h : Ok1 x) {n : Nm} {id : Int} (hn : aget n x.names = some id) (k : Int) : cn k { x with names := adel n x.names } + (if id = k then 1 else 0) = cn k x := by
  have := cnt_adel bbLt (fun e : Nm × Int => decide (e.2 = k)) h.sorted hn
  unfold cn
  simp only [decide_eq_true_eq] at this
  exact this
theorem ok1_cut {x : ItM} (h : Ok1 x) (n : Nm) (hk : x.kind = 2) : Ok1 { x with names := adel n x.names } := by
  refine ⟨h.kind, fun h1 => ?_, h.dir, h.gone, h.sorted.adel _, fun e he => h.good e (List.mem_filter.1 he).1, h.size, h.links, h.til⟩
  have : x.kind = 1 := h1
  omega
theorem OkP.cut {T : TrM} (h : OkP T) {d : Int} {x : ItM} {n : Nm} (hx : aget d T = some x) (hk : x.kind = 2) : OkP (cutName T d n) :=
  h.amod hx (ok1_cut (h.each d x hx) n hk) rfl (fun e he => h.leads d x hx e (List.mem_filter.1 he).1)
theorem OkP.del {T : TrM} (h : OkP T) {k : Int} {x : ItM} (hx : aget k T = some x) (h0 : k ≠ 0) (hc : cntM T k = 0) : OkP (adel k T) := by
  have hget : ∀ j y, aget j (adel k T) = some y → j ≠ k ∧ aget j T = some y := fun j y hy => by
    rw [aget_adel] at hy
    by_cases hj : j = k
    · rw [if_pos hj] at hy; cases hy
    · rw [if_neg hj] at hy; exact ⟨hj, hy⟩
  refine ⟨h.sorted.adel _, ?_, fun j y hy => h.each j y (hget j y hy).2, fun j y hy e he => ?_, ?_, fun j y hy => h.ids j y (hget j y hy).2⟩
  · have hr := h.root
    unfold kindM at hr ⊢
    rw [aget_adel, if_neg (Ne.symm h0)]
    exact hr
  · have h1 := h.leads j y (hget j y hy).2 e he
    have h2 := cn_zero hc (hget j y hy).2 e he
    rw [aget_adel, if_neg h2]
    exact h1
  · have := length_adel iltLaws h.sorted hx
    have := h.len
    omega
theorem cntM_cut {T : TrM} (h : OkP T) {d id : Int} {x : ItM} {n : Nm} (hx : aget d T = some x) (hn : aget n x.names = some id) (j : Int) : cntM (cutName T d n) j + (if id = j then 1 else 0) = cntM T j := by
  have h1 := cntM_amod h.sorted (fun x => { x with names := adel n x.names }) hx j
  have h2 := cn_cut (h.each d x hx) hn j
  unfold cutName
  omega
theorem cut_get {T : TrM} {d j : Int} {n : Nm} {y : ItM} (hy : aget j (cutName T d n) = some y) : ∃ z, aget j T = some z ∧ y.links = z.links ∧ y.kind = z.kind ∧ y.closed = z.closed ∧ y.b = z.b ∧ (j ≠ d → y = z) := by
  unfold cutName at hy
  rw [aget_amod] at hy
  by_cases hj : j = d
  · rw [if_pos hj] at hy
    cases hz : aget j T with
    | none => rw [hz] at hy; cases hy
    | some z =>
      rw [hz] at hy
      simp only [Option.map_some, Option.some.injEq] at hy
      subst hy
      exact ⟨z, rfl, rfl, rfl, rfl, rfl, fun h => absurd hj h⟩
  · rw [if_neg hj] at hy
    exact ⟨y, hy, rfl, rfl, rfl, rfl, fun _ => rfl⟩
/-- A node's last name goes, and it: it has no names itself. -/
theorem OkM.cut_del {T : TrM} (h : OkM T) {d id : Int} {x y : ItM} {n : Nm} (hx : aget d T = some x) (hk : x.kind = 2) (hn : aget n x.names = some id) (hy : aget id T = some y) (hid : id ≠ d) (h0 : id ≠ 0) (hyn : y.names = []) (hl : y.links = 1) : OkM (adel id (cutName T d n)) := by
  have hP := h.toOkP.cut (n := n) hx hk
  have hy1 : aget id (cutName T d n) = some y := by unfold cutName; rw [aget_amod, if_neg hid]; exact hy
  have hc := h.counts id y hy h0
  have h1 := cntM_cut h.toOkP hx hn id
  rw [if_pos rfl] at h1
  refine ⟨hP.del hy1 h0 (by omega), fun j z hz hj => ?_⟩
  have hji : j ≠ id := fun e => by subst e; rw [aget_adel_same] at hz; cases hz
  rw [aget_adel, if_neg hji] at hz
  obtain ⟨z', hz', hl', _⟩ := cut_get hz
  have h2 := cntM_cut h.toOkP hx hn j
  rw [if_neg (Ne.symm hji)] at h2
  have h3 := cntM_adel hP.sorted hy1 j
  have h4 : cn j y = 0 := by unfold cn; rw [hyn]; rfl
  have := h.counts j z' hz' hj
  omega
/-- A name of a file goes; with none left, closed, it is gone. -/
theorem OkM.cut_file {T : TrM} (h : OkM T) {d id : Int} {x y : ItM} {n : Nm} (hx : aget d T = some x) (hk : x.kind = 2) (hn : aget n x.names = some id) (hy : aget id T = some y) (hyk : y.kind ≠ 2) :
    OkM (settleM (Go.Proofs.YtpgklnhkfgbpgaaGreatDoor.amod id (fun x => { x with links := x.links - 1 }) (cutName T d n)) id) := by
  have hoy := h.each id y hy
  have h0 := h.file_ne hy hyk
  have hid : id ≠ d := fun e => by subst e; rw [hx] at hy; cases hy; exact hyk hk
  have hk1 := hoy.kind.resolve_right hyk
  have hyn := hoy.file hk1
  have hP := h.toOkP.cut (n := n) hx hk
  have hy1 : aget id (cutName T d n) = some y := by unfold cutName; rw [aget_amod, if_neg hid]; exact hy
  have hg : aget id (Go.Proofs.YtpgklnhkfgbpgaaGreatDoor.amod id (fun x => { x with links := x.links - 1 }) (cutName T d n)) = some { y with links := y.links - 1 } := by rw [aget_amod, if_pos rfl, hy1]; rfl
  have hcy := h.counts id y hy h0
  have h1 := cntM_cut h.toOkP hx hn id
  rw [if_pos rfl] at h1
  unfold settleM
  rw [hg]
  simp only
  by_cases hc : y.links - 1 = 0 ∧ y.closed = true
  · rw [if_pos hc]
    have e : adel id (Go.Proofs.YtpgklnhkfgbpgaaGreatDoor.amod id (fun x => { x with links := x.links - 1 }) (cutName T d n)) = adel id (cutName T d n) := by
      generalize cutName T d n = L
      unfold adel Go.Proofs.YtpgklnhkfgbpgaaGreatDoor.amod
      induction L with
      | nil => rfl
      | cons y r ih =>
        rw [List.map_cons, List.filter_cons, List.filter_cons, ih]
        by_cases hy : y.1 = id <;> simp [hy]
    rw [e]
    exact h.cut_del hx hk hn hy hid h0 hyn (by omega)
  · rw [if_neg hc]
    refine ⟨hP.amod (f := fun x => { x with links := x.links - 1 }) hy1 ⟨hoy.kind, hoy.file, fun h => absurd h hyk, fun h => ?_, hoy.sorted, hoy.good, hoy.size, ?_, hoy.til⟩ rfl (hP.leads id y hy1), fun j z hz hj => ?_⟩
    · cases hcl : y.closed with
      | true => exact absurd ⟨h, hcl⟩ hc
      | false => rfl
    · have := hoy.links
      simp only
      omega
    · have h3 := cntM_amod hP.sorted (fun x => { x with links := x.links - 1 }) hy1 j
      have h3' : cn j { y with links := y.links - 1 } = cn j y := rfl
      have h4 := cntM_cut h.toOkP hx hn j
      rw [aget_amod] at hz
      by_cases hji : j = id
      · subst hji
        rw [if_pos rfl, hy1] at hz
        simp only [Option.map_some, Option.some.injEq] at hz
        rw [if_pos rfl] at h4
        rw [← hz]
        simp only
        omega
      · rw [if_neg hji] at hz
        rw [if_neg (Ne.symm hji)] at h4
        obtain ⟨z', hz', hl', _⟩ := cut_get hz
        have := h.counts j z' hz' hj
        omega
theorem unlinkE_zero {T : TrM} {p : List Nm} (h : unlinkE T p = 0) : fineL p = 0 ∧ (lookM T 0 p).2 = 0 ∧ kindM T (lookM T 0 p).1 ≠ 2 := by
  unfold unlinkE lookE at h
  by_cases h1 : fineL p ≠ 0
  · rw [if_pos h1] at h
    simp only [if_pos h1] at h
    exact absurd h h1
  · rw [if_neg h1] at h
    by_cases h2 : (lookM T 0 p).2 ≠ 0
    · rw [if_pos h2] at h; exact absurd h h2
    · rw [if_neg h2] at h
      by_cases h3 : kindM T (lookM T 0 p).1 = 2
      · rw [if_pos h3] at h; cases h
      · exact ⟨by omega, by omega, h3⟩
theorem OkM.unlinkM {T : TrM} (h : OkM T) (p : List Nm) : OkM (unlinkM T p).2 := by
  unfold Go.Proofs.YtpgklnhkfgbpgaaGreatDoor.unlinkM
  by_cases he : unlinkE T p = 0
  · simp only [if_pos he]
    obtain ⟨h1, h2, h3⟩ := unlinkE_zero he
    obtain ⟨y, hy⟩ := Option.isSome_iff_exists.1 (lookM_there h p 0 (root_there h) h2)
    have hp : p ≠ [] := fun e => by subst e; exact h3 h.root
    obtain ⟨d, x, n, e1, _, hx, hk, hn, _⟩ := place_of_look (id := (lookM T 0 p).1) (Prod.ext rfl h2) hp
    rw [kindM_of hy] at h3
    unfold unlinkOk
    rw [e1]
    exact h.cut_file hx hk hn hy h3
  · simp only [if_neg he]; exact h
theorem rmdirE_zero {T : TrM} {p : List Nm} (h : rmdirE T p = 0) : fineL p = 0 ∧ (lookM T 0 p).2 = 0 ∧ kindM T (lookM T 0 p).1 = 2 ∧ (lookM T 0 p).1 ≠ 0 ∧ namesM T (lookM T 0 p).1 = [] := by
  unfold rmdirE lookE at h
  by_cases h1 : fineL p ≠ 0
  · rw [if_pos h1] at h
    simp only [if_pos h1] at h
    exact absurd h h1
  · rw [if_neg h1] at h
    by_cases h2 : (lookM T 0 p).2 ≠ 0
    · rw [if_pos h2] at h; exact absurd h h2
    · rw [if_neg h2] at h
      by_cases h3 : kindM T (lookM T 0 p).1 ≠ 2
      · rw [if_pos h3] at h; cases h
      · rw [if_neg h3] at h
        by_cases h4 : (lookM T 0 p).1 = 0
        · rw [if_pos h4] at h; cases h
        · rw [if_neg h4] at h
          by_cases h5 : 0 < (namesM T (lookM T 0 p).1).length
          · rw [if_pos h5] at h; cases h
          · exact ⟨by omega, by omega, by omega, h4, List.eq_nil_of_length_eq_zero (by omega)⟩
theorem OkM.rmdirM {T : TrM} (h : OkM T) (p : List Nm) : OkM (rmdirM T p).2 := by
  unfold Go.Proofs.YtpgklnhkfgbpgaaGreatDoor.rmdirM
  by_cases he : rmdirE T p = 0
  · simp only [if_pos he]
    obtain ⟨h1, h2, h3, h4, h5⟩ := rmdirE_zero he
    obtain ⟨y, hy⟩ := Option.isSome_iff_exists.1 (lookM_there h p 0 (root_there h) h2)
    have hp : p ≠ [] := fun e => by subst e; exact h4 rfl
    obtain ⟨d, x, n, e1, _, hx, hk, hn, _⟩ := place_of_look (id := (lookM T 0 p).1) (Prod.ext rfl h2) hp
    have hyn : y.names = [] := by unfold namesM at h5; rw [hy] at h5; exact h5
    rw [kindM_of hy] at h3
    unfold rmdirOk
    rw [e1]
    refine h.cut_del hx hk hn hy (fun e => ?_) h4 hyn ((h.each _ y hy).dir h3).1
    rw [e, hx] at hy
    cases hy
    rw [hyn] at hn
    cases hn
  · simp only [if_neg he]; exact h
end Go.Proofs.YtpgklnhkfgbpgaaGreatDoor
