/- Names that go: what holds of a tree behind Unlink, Rmdir; where a path's name stands. tree: Look, Unlink, Rmdir. -/
import Derived.Test.YtpgklnhkfgbpgaaGreatDoorM13
namespace Go.Proofs.YtpgklnhkfgbpgaaGreatDoor
open Go.ChangeShapes Go.WideShapes Go.ChangeAt Go.RowKit
set_option linter.unusedVariables false
set_option linter.unusedSimpArgs false

theorem lookM_append (T : TrM) : ∀ (p q : List Nm) (a : Int), lookM T a (p ++ q) = if (lookM T a p).2 = 0 then lookM T (lookM T a p).1 q else lookM T a p
  | [], q, a => by simp [lookM]
  | n :: r, q, a => by
    rcases Option.eq_none_or_eq_some (aget a T) with hx | ⟨x, hx⟩
    · simp [lookM, hx]
    · by_cases hk : x.kind = 2
      · rcases Option.eq_none_or_eq_some (aget n x.names) with hn | ⟨k, hn⟩
        · simp [lookM, hx, hk, hn]
        · simp only [List.cons_append, lookM, hx, if_pos hk, hn]
          exact lookM_append T r q k
      · simp [lookM, hx, hk]
/-- Where a path's last name stands. -/
theorem place_of_look {T : TrM} {p : List Nm} {id : Int} (h : lookM T 0 p = (id, 0)) (hp : p ≠ []) : ∃ d x n, placeM T p = (d, n, 0) ∧ lookM T 0 p.dropLast = (d, 0) ∧ aget d T = some x ∧ x.kind = 2 ∧ aget n x.names = some id ∧ n ∈ p ∧ p = p.dropLast ++ [n] := by
  obtain ⟨q, n, rfl⟩ : ∃ q n, p = q ++ [n] := ⟨p.dropLast, p.getLast hp, (List.dropLast_concat_getLast hp).symm⟩
  rw [lookM_append] at h
  have hd : (q ++ [n]).dropLast = q := by simp
  have hl : (q ++ [n]).getLastD [] = n := by simp [List.getLastD_eq_getLast?]
  by_cases he : (lookM T 0 q).2 = 0
  · rw [if_pos he] at h
    obtain ⟨⟨d, e0⟩, hq⟩ : ∃ r, r = lookM T 0 q := ⟨_, rfl⟩
    rw [← hq] at h he
    simp only at he
    subst he
    simp only [lookM] at h
    cases hx : aget d T with
    | none => rw [hx] at h; cases h
    | some x =>
      rw [hx] at h
      simp only at h
      by_cases hk : x.kind = 2
      · rw [if_pos hk] at h
        cases hn : aget n x.names with
        | none => rw [hn] at h; cases h
        | some k =>
          rw [hn] at h
          simp only [Prod.mk.injEq, and_true] at h
          subst h
          refine ⟨d, x, n, ?_, by rw [hd, ← hq], hx, hk, hn, by simp, by rw [hd]⟩
          unfold placeM
          rw [if_neg hp, hd, hl, ← hq, if_neg (by simp), if_pos ((kindM_of hx).trans hk)]
      · rw [if_neg hk] at h; cases h
  · rw [if_neg he] at h
    rw [h] at he
    exact absurd rfl he
theorem cnt_adel {α : Type} {κ : Type} [DecidableEq κ] {lt : κ → κ → Bool} (L : LtLaws lt) (P : κ × α → Bool) {l : List (κ × α)} (hs : ASorted lt l) {k : κ} {v : α} (hg : aget k l = some v) : (adel k l).countP P + (if P (k, v) then 1 else 0) = l.countP P := by
  induction l with
  | nil => cases hg
  | cons y r ih =>
    have hp := hs.apart L
    obtain ⟨h1, h2⟩ := List.pairwise_cons.1 hp
    rw [aget_cons] at hg
    have hcons : adel k (y :: r) = if y.1 = k then adel k r else y :: adel k r := by
      unfold adel
      rw [List.filter_cons]
      by_cases hy : y.1 = k <;> simp [hy]
    rw [hcons]
    by_cases hy : y.1 = k
    · rw [if_pos hy] at hg
      rw [if_pos hy]
      cases hg
      have hr : adel k r = r := by
        unfold adel
        rw [List.filter_eq_self]
        intro q hq
        have := h1 q hq
        simp only [Bool.not_eq_true', decide_eq_false_iff_not]
        exact fun e => this (hy.trans e.symm)
      have e : (k, y.2) = y := by rw [← hy]
      rw [hr, List.countP_cons, e]
    · rw [if_neg hy] at hg
      rw [if_neg hy, List.countP_cons, List.countP_cons]
      have := ih (List.pairwise_cons.1 hs).2 hg
      omega
theorem cn_cut {x : ItM} (h : Ok1 x) {n : Nm} {id : Int} (hn : aget n x.names = some id) (k : Int) : cn k { x with names := adel n x.names } + (if id = k then 1 else 0) = cn k x := by
  have := cnt_adel bbLt (fun e : Nm × Int => decide (e.2 = k)) h.sorted hn
  unfold cn
  simp only [decide_eq_true_eq] at this
  exact this
theorem ok1_cut {x : ItM} (h : Ok1 x) (n : Nm) (hk : x.kind = 2) : Ok1 { x with names := adel n x.names } := by
  refine ⟨h.kind, fun h1 => ?_, h.dir, h.gone, h.sorted.adel _, fun e he => h.good e (List.mem_filter.1 he).1, h.size, h.links, h.til⟩
  have : x.kind = 1 := h1
  omega
theorem OkP.cut {T : TrM} (h : OkP T) {d : Int} {x : ItM} {n : Nm} (hx : aget d T = some x) (hk : x.kind = 2) : OkP (cutName T d n) :=
  h.amod hx (ok1_cut (h.each d x hx) n hk) rfl (fun e he => h.leads d x hx e (List.mem_filter.1 he).1)
theorem OkP.del {T : TrM} (h : OkP T) {k : Int} {x : ItM} (hx : aget k T = some x) (h0 : k ≠ 0) (hc : cntM T k = 0) : OkP (adel k T) := by
  have hget : ∀ j y, aget j (adel k T) = some y → j ≠ k ∧ aget j T = some y := fun j y hy => by
    rw [aget_adel] at hy
    by_cases hj : j = k
    · rw [if_pos hj] at hy; cases hy
    · rw [if_neg hj] at hy; exact ⟨hj, hy⟩
  refine ⟨h.sorted.adel _, ?_, fun j y hy => h.each j y (hget j y hy).2, fun j y hy e he => ?_, ?_, fun j y hy => h.ids j y (hget j y hy).2⟩
  · have hr := h.root
    unfold kindM at hr ⊢
    rw [aget_adel, if_neg (Ne.symm h0)]
    exact hr
  · have h1 := h.leads j y (hget j y hy).2 e he
    have h2 := cn_zero hc (hget j y hy).2 e he
    rw [aget_adel, if_neg h2]
    exact h1
  · have := length_adel iltLaws h.sorted hx
    have := h.len
    omega
theorem cntM_cut {T : TrM} (h : OkP T) {d id : Int} {x : ItM} {n : Nm} (hx : aget d T = some x) (hn : aget n x.names = some id) (j : Int) : cntM (cutName T d n) j + (if id = j then 1 else 0) = cntM T j := by
  have h1 := cntM_amod h.sorted (fun x => { x with names := adel n x.names }) hx j
  have h2 := cn_cut (h.each d x hx) hn j
  unfold cutName
  omega
theorem cut_get {T : TrM} {d j : Int} {n : Nm} {y : ItM} (hy : aget j (cutName T d n) = some y) : ∃ z, aget j T = some z ∧ y.links = z.links ∧ y.kind = z.kind ∧ y.closed = z.closed ∧ y.b = z.b ∧ (j ≠ d → y = z) := by
  unfold cutName at hy
  rw [aget_amod] at hy
  by_cases hj : j = d
  · rw [if_pos hj] at hy
    cases hz : aget j T with
    | none => rw [hz] at hy; cases hy
    | some z =>
      rw [hz] at hy
      simp only [Option.map_some, Option.some.injEq] at hy
      subst hy
      exact ⟨z, rfl, rfl, rfl, rfl, rfl, fun h => absurd hj h⟩
  · rw [if_neg hj] at hy
    exact ⟨y, hy, rfl, rfl, rfl, rfl, fun _ => rfl⟩
/-- A node's last name goes, and it: it has no names itself. -/
theorem OkM.cut_del {T : TrM} (h : OkM T) {d id : Int} {x y : ItM} {n : Nm} (hx : aget d T = some x) (hk : x.kind = 2) (hn : aget n x.names = some id) (hy : aget id T = some y) (hid : id ≠ d) (h0 : id ≠ 0) (hyn : y.names = []) (hl : y.links = 1) : OkM (adel id (cutName T d n)) := by
  have hP := h.toOkP.cut (n := n) hx hk
  have hy1 : aget id (cutName T d n) = some y := by unfold cutName; rw [aget_amod, if_neg hid]; exact hy
  have hc := h.counts id y hy h0
  have h1 := cntM_cut h.toOkP hx hn id
  rw [if_pos rfl] at h1
  refine ⟨hP.del hy1 h0 (by omega), fun j z hz hj => ?_⟩
  have hji : j ≠ id := fun e => by subst e; rw [aget_adel_same] at hz; cases hz
  rw [aget_adel, if_neg hji] at hz
  obtain ⟨z', hz', hl', _⟩ := cut_get hz
  have h2 := cntM_cut h.toOkP hx hn j
  rw [if_neg (Ne.symm hji)] at h2
  have h3 := cntM_adel hP.sorted hy1 j
  have h4 : cn j y = 0 := by unfold cn; rw [hyn]; rfl
  have := h.counts j z' hz' hj
  omega
/-- A name of a file goes; with none left, closed, it is gone. -/
theorem OkM.cut_file {T : TrM} (h : OkM T) {d id : Int} {x y : ItM} {n : Nm} (hx : aget d T = some x) (hk : x.kind = 2) (hn : aget n x.names = some id) (hy : aget id T = some y) (hyk : y.kind ≠ 2) :
    OkM (settleM (Go.Proofs.YtpgklnhkfgbpgaaGreatDoor.amod id (fun x => { x with links := x.links - 1 }) (cutName T d n)) id) := by
  have hoy := h.each id y hy
  have h0 := h.file_ne hy hyk
  have hid : id ≠ d := fun e => by subst e; rw [hx] at hy; cases hy; exact hyk hk
  have hk1 := hoy.kind.resolve_right hyk
  have hyn := hoy.file hk1
  have hP := h.toOkP.cut (n := n) hx hk
  have hy1 : aget id (cutName T d n) = some y := by unfold cutName; rw [aget_amod, if_neg hid]; exact hy
  have hg : aget id (Go.Proofs.YtpgklnhkfgbpgaaGreatDoor.amod id (fun x => { x with links := x.links - 1 }) (cutName T d n)) = some { y with links := y.links - 1 } := by rw [aget_amod, if_pos rfl, hy1]; rfl
  have hcy := h.counts id y hy h0
  have h1 := cntM_cut h.toOkP hx hn id
  rw [if_pos rfl] at h1
  unfold settleM
  rw [hg]
  simp only
  by_cases hc : y.links - 1 = 0 ∧ y.closed = true
  · rw [if_pos hc]
    have e : adel id (Go.Proofs.YtpgklnhkfgbpgaaGreatDoor.amod id (fun x => { x with links := x.links - 1 }) (cutName T d n)) = adel id (cutName T d n) := by
      generalize cutName T d n = L
      unfold adel Go.Proofs.YtpgklnhkfgbpgaaGreatDoor.amod
      induction L with
      | nil => rfl
      | cons y r ih =>
        rw [List.map_cons, List.filter_cons, List.filter_cons, ih]
        by_cases hy : y.1 = id <;> simp [hy]
    rw [e]
    exact h.cut_del hx hk hn hy hid h0 hyn (by omega)
  · rw [if_neg hc]
    refine ⟨hP.amod (f := fun x => { x with links := x.links - 1 }) hy1 ⟨hoy.kind, hoy.file, fun h => absurd h hyk, fun h => ?_, hoy.sorted, hoy.good, hoy.size, ?_, hoy.til⟩ rfl (hP.leads id y hy1), fun j z hz hj => ?_⟩
    · cases hcl : y.closed with
      | true => exact absurd ⟨h, hcl⟩ hc
      | false => rfl
    · have := hoy.links
      simp only
      omega
    · have h3 := cntM_amod hP.sorted (fun x => { x with links := x.links - 1 }) hy1 j
      have h3' : cn j { y with links := y.links - 1 } = cn j y := rfl
      have h4 := cntM_cut h.toOkP hx hn j
      rw [aget_amod] at hz
      by_cases hji : j = id
      · subst hji
        rw [if_pos rfl, hy1] at hz
        simp only [Option.map_some, Option.some.injEq] at hz
        rw [if_pos rfl] at h4
        rw [← hz]
        simp only
        omega
      · rw [if_neg hji] at hz
        rw [if_neg (Ne.symm hji)] at h4
        obtain ⟨z', hz', hl', _⟩ := cut_get hz
        have := h.counts j z' hz' hj
        omega
theorem unlinkE_zero {T : TrM} {p : List Nm} (h : unlinkE T p = 0) : fineL p = 0 ∧ (lookM T 0 p).2 = 0 ∧ kindM T (lookM T 0 p).1 ≠ 2 := by
  unfold unlinkE lookE at h
  by_cases h1 : fineL p ≠ 0
  · rw [if_pos h1] at h
    simp only [if_pos h1] at h
    exact absurd h h1
  · rw [if_neg h1] at h
    by_cases h2 : (lookM T 0 p).2 ≠ 0
    · rw [if_pos h2] at h; exact absurd h h2
    · rw [if_neg h2] at h
      by_cases h3 : kindM T (lookM T 0 p).1 = 2
      · rw [if_pos h3] at h; cases h
      · exact ⟨by omega, by omega, h3⟩
theorem OkM.unlinkM {T : TrM} (h : OkM T) (p : List Nm) : OkM (unlinkM T p).2 := by
  unfold Go.Proofs.YtpgklnhkfgbpgaaGreatDoor.unlinkM
  by_cases he : unlinkE T p = 0
  · simp only [if_pos he]
    obtain ⟨h1, h2, h3⟩ := unlinkE_zero he
    obtain ⟨y, hy⟩ := Option.isSome_iff_exists.1 (lookM_there h p 0 (root_there h) h2)
    have hp : p ≠ [] := fun e => by subst e; exact h3 h.root
    obtain ⟨d, x, n, e1, _, hx, hk, hn, _⟩ := place_of_look (id := (lookM T 0 p).1) (Prod.ext rfl h2) hp
    rw [kindM_of hy] at h3
    unfold unlinkOk
    rw [e1]
    exact h.cut_file hx hk hn hy h3
  · simp only [if_neg he]; exact h
theorem rmdirE_zero {T : TrM} {p : List Nm} (h : rmdirE T p = 0) : fineL p = 0 ∧ (lookM T 0 p).2 = 0 ∧ kindM T (lookM T 0 p).1 = 2 ∧ (lookM T 0 p).1 ≠ 0 ∧ namesM T (lookM T 0 p).1 = [] := by
  unfold rmdirE lookE at h
  by_cases h1 : fineL p ≠ 0
  · rw [if_pos h1] at h
    simp only [if_pos h1] at h
    exact absurd h h1
  · rw [if_neg h1] at h
    by_cases h2 : (lookM T 0 p).2 ≠ 0
    · rw [if_pos h2] at h; exact absurd h h2
    · rw [if_neg h2] at h
      by_cases h3 : kindM T (lookM T 0 p).1 ≠ 2
      · rw [if_pos h3] at h; cases h
      · rw [if_neg h3] at h
        by_cases h4 : (lookM T 0 p).1 = 0
        · rw [if_pos h4] at h; cases h
        · rw [if_neg h4] at h
          by_cases h5 : 0 < (namesM T (lookM T 0 p).1).length
          · rw [if_pos h5] at h; cases h
          · exact ⟨by omega, by omega, by omega, h4, List.eq_nil_of_length_eq_zero (by omega)⟩
theorem OkM.rmdirM {T : TrM} (h : OkM T) (p : List Nm) : OkM (rmdirM T p).2 := by
  unfold Go.Proofs.YtpgklnhkfgbpgaaGreatDoor.rmdirM
  by_cases he : rmdirE T p = 0
  · simp only [if_pos he]
    obtain ⟨h1, h2, h3, h4, h5⟩ := rmdirE_zero he
    obtain ⟨y, hy⟩ := Option.isSome_iff_exists.1 (lookM_there h p 0 (root_there h) h2)
    have hp : p ≠ [] := fun e => by subst e; exact h4 rfl
    obtain ⟨d, x, n, e1, _, hx, hk, hn, _⟩ := place_of_look (id := (lookM T 0 p).1) (Prod.ext rfl h2) hp
    have hyn : y.names = [] := by unfold namesM at h5; rw [hy] at h5; exact h5
    rw [kindM_of hy] at h3
    unfold rmdirOk
    rw [e1]
    refine h.cut_del hx hk hn hy (fun e => ?_) h4 hyn ((h.each _ y hy).dir h3).1
    rw [e, hx] at hy
    cases hy
    rw [hyn] at hn
    cases hn
  · simp only [if_neg he]; exact h
end Go.Proofs.YtpgklnhkfgbpgaaGreatDoor
namespace Go.Proofs.YtpgklnhkfgbpgaaGreatDoor
open Go.ChangeShapes Go.WideShapes Go.ChangeAt Go.RowKit
set_option linter.unusedVariables false
set_option linter.unusedSimpArgs false

section
variable {g : Nat → Own} {D : Nat → Prop} {p mb : Nat} {ib nb : Int → Nat} {T : TrM}
set_option maxHeartbeats 2000000 in
theorem Look_at {S : Nat → Prop} (a : Option Addr) (n c : Nat) (ls : List Nm) (w : World) (h : TreeAt g D w p mb ib nb T) (hT : OkM T) (hS : StrsAt S w a n (ls.map strOf)) :
    Calls Tryz.prog 82 #[ptr p, .slice a n c] w fun e w' => e = .returned (.tuple #[.int .i64 (lookE T ls).1, .int .i64 (lookE T ls).2]) ∧ Below w.heap.size w w' := by
  have HF := Lib.hid (fine1_at (S := S) a n c ls w hS)
  have HLK := Lib.hid (fun w1 (hb : Below w.heap.size w w1) => look_any a n c ls w1 (h.below hb (Nat.le_refl _)) hT (hS.below hb (Nat.le_refl _)))
  clear h hT hS
  by_cases hf : fineL ls = 0
  · have HE : Hid (lookE T ls = lookM T 0 ls) := by unfold lookE; rw [if_neg (by rw [hf]; simp)]; exact rfl
    rw [hf] at HF
    clear hf
    go_enter Tryz.func82, Tryz.ntmps82
    go_wp2_with fail
    (with_reducible refine HF.out.mono ?_)
    rintro e w1 ⟨rfl, hb1⟩
    have HB1 := Lib.hid hb1
    clear hb1
    go_wp2_with fail
    (with_reducible refine (HLK.out w1 HB1.out).mono ?_)
    rintro e w2 ⟨rfl, rfl⟩
    go_wp2_with fail
    go_ret2
    rw [HE.out]
    exact ⟨rfl, HB1.out⟩
  · have HE : Hid (lookE T ls = (0, fineL ls)) := by unfold lookE; rw [if_pos hf]; exact rfl
    have hne : (fineL ls == 0) = false := by simpa using hf
    have hne2 : (fineL ls != 0) = true := by simpa using hf
    clear hf
    go_enter Tryz.func82, Tryz.ntmps82
    go_wp2_with fail
    (with_reducible refine HF.out.mono ?_)
    rintro e w1 ⟨rfl, hb1⟩
    have HB1 := Lib.hid hb1
    clear hb1
    go_wp2_with fail
    go_ret2
    rw [HE.out]
    exact ⟨rfl, HB1.out⟩

theorem place_ok {S : Nat → Prop} {d : Int} {nm : Nm} (a : Option Addr) (n c : Nat) (ls : List Nm) (w : World) (h : TreeAt g D w p mb ib nb T) (hT : OkM T) (hS : StrsAt S w a n (ls.map strOf)) (hc : n ≤ c) (hn8 : n ≤ 1000000) (hp : placeM T ls = (d, nm, 0)) :
    Calls Tryz.prog 62 #[ptr p, .slice a n c] w fun e w' => e = .returned (.tuple #[ptr (ib d), .string (strOf nm), .int .i64 0]) ∧ Below w.heap.size w w' := by
  have := place_any a n c ls w h hT hS hc hn8
  unfold RetPlace at this
  rw [hp] at this
  exact this
theorem dirs_cell {w : World} {d : Int} {x : ItM} (h : TreeAt g D w p mb ib nb T) (hx : aget d T = some x) (hk : x.kind = 2) : w.cell? ⟨ib d, 7, none⟩ = some (.map (some (nb d))) ∧ MapAt strK w (nb d) (nameL x) := by
  have hi := h.item d x hx
  obtain ⟨_, _, _, _, _, _, c7, _⟩ := hi.cell
  unfold namesV at c7
  rw [if_pos hk] at c7
  exact ⟨c7, hi.names hk⟩
theorem okNm {nm : Nm} (h : goodL nm = true) : strK.ok nm := by
  have := good_len nm h
  show nm.length ≤ maxLen
  unfold maxLen; omega
/-- A name is cut, and the world is as it was but for that. -/
theorem cut_at {w w' : World} {d : Int} {x : ItM} {n : Nm} (h : TreeAt g D w p mb ib nb T) (hx : aget d T = some x) (hk : x.kind = 2) (hM : MapAt strK w' (nb d) (adel n (nameL x))) (hT : w.mapTurned w' (nb d)) : TreeAt g D w' p mb ib nb (cutName T d n) ∧ Keeps (fun b => g b ≠ .none) w w' :=
  ⟨h.cut hx hk hM hT, (turned_keeps hT).mono fun b _ hb => by rw [show b = nb d from hb, h.tagn d x hx hk]; simp⟩
theorem below_keeps {w w' : World} {fp : Nat → Prop} (hb : Below w.heap.size w w') : Keeps fp w w' := (Keeps.below hb).mono fun b hb hb' => absurd hb (by omega)

set_option maxRecDepth 100000 in
set_option maxHeartbeats 8000000 in
theorem unlink_at {S : Nat → Prop} (a : Option Addr) (n c : Nat) (ls : List Nm) (w : World) (h : TreeAt g D w p mb ib nb T) (hT : OkM T) (hS : StrsAt S w a n (ls.map strOf)) (hc : n ≤ c) (hn8 : n ≤ 1000000) :
    Calls Tryz.prog 89 #[ptr p, .slice a n c] w (Turn g D w p mb (unlinkM T ls).2 (.int .i64 (unlinkM T ls).1)) := by
  have HH := Lib.hid h
  have HT := Lib.hid hT
  have HS := Lib.hid hS
  have HF := Lib.hid (fine1_at (S := S) a n c ls w hS)
  have HLK := Lib.hid (fun w1 (hb : Below w.heap.size w w1) => look_any a n c ls w1 (h.below hb (Nat.le_refl _)) hT (hS.below hb (Nat.le_refl _)))
  clear h hT hS
  by_cases hf : fineL ls = 0
  · have HFL := Lib.hid hf
    rw [hf] at HF
    clear hf
    have HLE : Hid (lookE T ls = lookM T 0 ls) := by unfold lookE; rw [if_neg (by rw [HFL.out]; simp)]; exact rfl
    obtain ⟨⟨id, e0⟩, hq⟩ : ∃ q, q = lookM T 0 ls := ⟨_, rfl⟩
    have HQ := Lib.hid hq
    rw [← hq] at HLK HLE
    clear hq
    by_cases he : e0 = 0
    · subst he
      obtain ⟨y, hy⟩ := Option.isSome_iff_exists.1 (lookM_zero HQ.out.symm HT.out)
      have HY := Lib.hid hy
      have hids := HT.out.ids id y hy
      have hok : intK.ok id := okInt hids.1 (by omega)
      have HG : Hid (aget id (T.map fun q => (q.1, ptr (ib q.1))) = some (ptr (ib id))) := by rw [aget_ptr, hy]; rfl
      have HIT : Hid (∀ w1, Below w.heap.size w w1 → w1.cell? ⟨p, 0, none⟩ = some (.map (some mb)) ∧ MapAt intK w1 mb (T.map fun q => (q.1, ptr (ib q.1))) ∧ w1.cell? ⟨ib id, 1, none⟩ = some (.int .i64 y.kind)) := fun w1 hb => by
        have h2 := HH.out.below hb (Nat.le_refl _)
        obtain ⟨_, c1, c2, _⟩ := (h2.item id y HY.out).cell
        exact ⟨h2.cell.1, h2.map, c1⟩
      clear hy
      by_cases hk : y.kind = 2
      · have HM : Hid (unlinkM T ls = (22, T)) := by
          have : unlinkE T ls = 22 := by
            unfold unlinkE
            rw [HLE.out, ← HQ.out, if_neg (by simp), if_pos ((kindM_of HY.out).trans hk)]
          unfold unlinkM; rw [this] <;> exact rfl
        go_enter Tryz.func89, Tryz.ntmps89
        go_wp2_with fail
        (with_reducible refine HF.out.mono ?_)
        rintro e w1 ⟨rfl, hb1⟩
        have HB1 := Lib.hid hb1
        clear hb1
        go_wp2_with fail
        (with_reducible refine (HLK.out w1 HB1.out).mono ?_)
        rintro e w2 ⟨rfl, rfl⟩
        obtain ⟨c0, hmap, c1⟩ := HIT.out w1 HB1.out
        rw [hk] at c1
        have HMAP := Lib.hid hmap
        clear hmap
        go_wp2_with (first | (at_lookup; refine wpList_look intK rfl _ _ 98 91 rfl Tryz.underlying98 (Tryz.zeroItem _) rfl HMAP.out id rfl hok ?_; rw [HG.out]))
        go_ret
        rw [HM.out]
        exact Turn.same HH.out HB1.out rfl
      · have hkk : (y.kind == 2) = false := by simpa using hk
        have hp : ls ≠ [] := fun e => by
          have h1 : id = 0 := congrArg Prod.fst (HQ.out.trans (by rw [e] <;> exact (rfl : lookM T 0 [] = (0, 0))))
          have := HT.out.root
          rw [← h1, kindM_of HY.out] at this
          exact hk this
        obtain ⟨d, x, nm, e1, -, hx, hxk, hn, hmem, -⟩ := place_of_look HQ.out.symm hp
        have HGN := Lib.hid (fineL_good HFL.out _ hmem)
        have hokn := okNm HGN.out
        have HM : Hid (unlinkM T ls = (0, settleM (amod id (fun x => { x with links := x.links - 1 }) (cutName T d nm)) id)) := by
          have : unlinkE T ls = 0 := by
            unfold unlinkE
            rw [HLE.out, ← HQ.out, if_neg (by simp), if_neg (by rw [kindM_of HY.out]; exact hk)]
          unfold unlinkM unlinkOk; rw [this, ← HQ.out, e1]; exact rfl
        have HPL := Lib.hid (fun w1 (hb : Below w.heap.size w w1) => place_ok a n c ls w1 (HH.out.below hb (Nat.le_refl _)) HT.out (HS.out.below hb (Nat.le_refl _)) hc hn8 e1)
        have HX := Lib.hid hx
        have HXK := Lib.hid hxk
        have hdi : id ≠ d := fun e => by subst e; rw [HY.out] at hx; cases hx; exact hk hxk
        have HDI := Lib.hid hdi
        have HCELL := Lib.hid (fun w2 (hb : Below w.heap.size w w2) => dirs_cell (HH.out.below hb (Nat.le_refl _)) hx hxk)
        have HWID : Hid ((Lit.int .i64 id).wf = true) := hok
        have hln := (HT.out.each id y HY.out).links
        clear hk hp e1 hx hxk hn hmem hdi
        go_enter Tryz.func89, Tryz.ntmps89
        go_wp2_with fail
        (with_reducible refine HF.out.mono ?_)
        rintro e w1 ⟨rfl, hb1⟩
        have HB1 := Lib.hid hb1
        clear hb1
        go_wp2_with fail
        (with_reducible refine (HLK.out w1 HB1.out).mono ?_)
        rintro e w2 ⟨rfl, rfl⟩
        obtain ⟨c0, hmap, c1⟩ := HIT.out w1 HB1.out
        have HMAP := Lib.hid hmap
        clear hmap
        go_wp2_with (first | (at_lookup; refine wpList_look intK rfl _ _ 98 91 rfl Tryz.underlying98 (Tryz.zeroItem _) rfl HMAP.out id rfl hok ?_; rw [HG.out]))
        (with_reducible refine (HPL.out w1 HB1.out).mono ?_)
        rintro e w2 ⟨rfl, hb2⟩
        have HB2 := Lib.hid (HB1.out.trans (hb2.mono HB1.out.size))
        clear hb2
        obtain ⟨d7, hnames⟩ := HCELL.out w2 HB2.out
        have HNM := Lib.hid hnames
        have HA2 := Lib.hid (HH.out.below HB2.out (Nat.le_refl _))
        clear hnames
        have HCUT : Hid (∀ w3, MapAt strK w3 (nb d) (adel nm (nameL x)) → w2.mapTurned w3 (nb d) → (TreeAt g D w3 p mb ib nb (cutName T d nm) ∧ Keeps (fun b => g b ≠ .none) w2 w3) ∧ aget id (cutName T d nm) = some y ∧ w3.cell? ⟨ib id, 2, none⟩ = some (.int .i64 y.links) ∧ w3.frozen? ⟨ib id, 2, none⟩ = false) := fun w3 hM hTu => by
          have h3 := cut_at HA2.out HX.out HXK.out hM hTu
          have hy3 : aget id (cutName T d nm) = some y := by unfold cutName; rw [aget_amod, if_neg HDI.out]; exact HY.out
          exact ⟨h3, hy3, (h3.1.item id y hy3).cell.2.2.1, (h3.1.item id y hy3).frozen 2⟩
        go_wp2_with (at_delete; refine wpList_delete strK rfl _ _ 95 3 rfl Tryz.underlying95 rfl HNM.out nm rfl hokn ?_; intro w3 hM3 hT3; obtain ⟨hA3, hy3, g2, gf2⟩ := HCUT.out w3 hM3 hT3; have HA3 := Lib.hid hA3; have HY3 := Lib.hid hy3; clear hA3 hM3 hT3 hy3)
        have hA3 := HA3.out
        have hgi := HH.out.tagi id y HY.out
        have hA4 : TreeAt g D (w3.setCell ⟨ib id, 2, none⟩ (.int .i64 (y.links - 1))) p mb ib nb (amod id (fun x => { x with links := x.links - 1 }) (cutName T d nm)) :=
          hA3.1.fields HY3.out (fun x => { x with links := x.links - 1 }) rfl rfl rfl (Keeps.set_ w3 ⟨ib id, 2, none⟩ _) (by rw [size_set]) fun a c hc => by rw [heap_set_same hc]; rfl
        have hy4 : aget id (amod id (fun x => { x with links := x.links - 1 }) (cutName T d nm)) = some { y with links := y.links - 1 } := by rw [aget_amod, if_pos rfl, HY3.out]; rfl
        have HK4 : Hid (Keeps (fun b => g b ≠ .none) w (w3.setCell ⟨ib id, 2, none⟩ (.int .i64 (y.links - 1)))) :=
          ((below_keeps HB2.out).trans hA3.2 (fun _ _ h => h)).trans ((Keeps.set_ w3 ⟨ib id, 2, none⟩ _).mono fun b _ hb => by rw [show b = ib id from hb, hgi]; simp) (fun _ _ h => h)
        have HSET := Lib.hid (settle_any id hy4 HWID.out _ hA4)
        have HGM := Lib.hid HH.out.tagm
        clear hA3 hgi hA4 hy4
        (with_reducible refine HSET.out.mono ?_)
        rintro e w5 ⟨rfl, hA5, hK5, _⟩
        have HA5 := Lib.hid hA5
        have HK5 := Lib.hid hK5
        clear hA5 hK5
        go_wp2_with fail
        go_ret
        rw [HM.out]
        exact Turn.of rfl HA5.out (HK4.out.trans (HK5.out.mono fun b _ hb => by rw [show b = mb from hb, HGM.out]; simp) (fun _ _ h => h))
    · have hne : (e0 == 0) = false := by simpa using he
      have hne2 : (e0 != 0) = true := by simpa using he
      have HM : Hid (unlinkM T ls = (e0, T)) := by
        have : unlinkE T ls = e0 := by
          unfold unlinkE
          rw [HLE.out, if_pos he]
        unfold unlinkM; rw [this, if_neg he]; exact rfl
      clear he
      go_enter Tryz.func89, Tryz.ntmps89
      go_wp2_with fail
      (with_reducible refine HF.out.mono ?_)
      rintro e w1 ⟨rfl, hb1⟩
      have HB1 := Lib.hid hb1
      clear hb1
      go_wp2_with fail
      (with_reducible refine (HLK.out w1 HB1.out).mono ?_)
      rintro e w2 ⟨rfl, rfl⟩
      go_wp2_with fail
      go_ret
      rw [HM.out]
      exact Turn.same HH.out HB1.out rfl
  · have HM : Hid (unlinkM T ls = (fineL ls, T)) := by
      have : unlinkE T ls = fineL ls := by unfold unlinkE lookE; rw [if_pos hf, if_pos hf]
      unfold unlinkM; rw [this, if_neg hf]; exact rfl
    have hne : (fineL ls == 0) = false := by simpa using hf
    have hne2 : (fineL ls != 0) = true := by simpa using hf
    clear hf
    go_enter Tryz.func89, Tryz.ntmps89
    go_wp2_with fail
    (with_reducible refine HF.out.mono ?_)
    rintro e w1 ⟨rfl, hb1⟩
    go_wp2_with fail
    go_ret
    rw [HM.out]
    exact Turn.same HH.out hb1 rfl
set_option maxRecDepth 100000 in
set_option maxHeartbeats 8000000 in
theorem rmdir_at {S : Nat → Prop} (a : Option Addr) (n c : Nat) (ls : List Nm) (w : World) (h : TreeAt g D w p mb ib nb T) (hT : OkM T) (hS : StrsAt S w a n (ls.map strOf)) (hc : n ≤ c) (hn8 : n ≤ 1000000) :
    Calls Tryz.prog 45 #[ptr p, .slice a n c] w (Turn g D w p mb (rmdirM T ls).2 (.int .i64 (rmdirM T ls).1)) := by
  have HH := Lib.hid h
  have HT := Lib.hid hT
  have HS := Lib.hid hS
  have HF := Lib.hid (fine1_at (S := S) a n c ls w hS)
  have HLK := Lib.hid (fun w1 (hb : Below w.heap.size w w1) => look_any a n c ls w1 (h.below hb (Nat.le_refl _)) hT (hS.below hb (Nat.le_refl _)))
  clear h hT hS
  by_cases hf : fineL ls = 0
  · have HFL := Lib.hid hf
    rw [hf] at HF
    clear hf
    have HLE : Hid (lookE T ls = lookM T 0 ls) := by unfold lookE; rw [if_neg (by rw [HFL.out]; simp)]; exact rfl
    obtain ⟨⟨id, e0⟩, hq⟩ : ∃ q, q = lookM T 0 ls := ⟨_, rfl⟩
    have HQ := Lib.hid hq
    rw [← hq] at HLK HLE
    clear hq
    by_cases he : e0 = 0
    · subst he
      obtain ⟨y, hy⟩ := Option.isSome_iff_exists.1 (lookM_zero HQ.out.symm HT.out)
      have HY := Lib.hid hy
      have hids := HT.out.ids id y hy
      have hok : intK.ok id := okInt hids.1 (by omega)
      have HG : Hid (aget id (T.map fun q => (q.1, ptr (ib q.1))) = some (ptr (ib id))) := by rw [aget_ptr, hy]; rfl
      have HIT : Hid (∀ w1, Below w.heap.size w w1 → w1.cell? ⟨p, 0, none⟩ = some (.map (some mb)) ∧ MapAt intK w1 mb (T.map fun q => (q.1, ptr (ib q.1))) ∧ w1.cell? ⟨ib id, 1, none⟩ = some (.int .i64 y.kind)) := fun w1 hb => by
        have h2 := HH.out.below hb (Nat.le_refl _)
        obtain ⟨_, c1, c2, _⟩ := (h2.item id y HY.out).cell
        exact ⟨h2.cell.1, h2.map, c1⟩
      clear hy
      by_cases hk : y.kind = 2
      · rw [hk] at HIT
        have HYK := Lib.hid hk
        clear hk
        by_cases h0 : id = 0
        · have HM : Hid (rmdirM T ls = (1, T)) := by
            have : rmdirE T ls = 1 := by
              unfold rmdirE
              rw [HLE.out, ← HQ.out, if_neg (by simp), if_neg (by rw [kindM_of HY.out, HYK.out]; simp), if_pos h0]
            unfold rmdirM; rw [this] <;> exact rfl
          have hd0 : (id == 0) = true := by simpa using h0
          clear h0
          go_enter Tryz.func45, Tryz.ntmps45
          go_wp2_with fail
          (with_reducible refine HF.out.mono ?_)
          rintro e w1 ⟨rfl, hb1⟩
          have HB1 := Lib.hid hb1
          clear hb1
          go_wp2_with fail
          (with_reducible refine (HLK.out w1 HB1.out).mono ?_)
          rintro e w2 ⟨rfl, rfl⟩
          obtain ⟨c0, hmap, c1⟩ := HIT.out w1 HB1.out
          have HMAP := Lib.hid hmap
          clear hmap
          go_wp2_with (first | (at_lookup; refine wpList_look intK rfl _ _ 98 91 rfl Tryz.underlying98 (Tryz.zeroItem _) rfl HMAP.out id rfl hok ?_; rw [HG.out]))
          go_ret
          rw [HM.out]
          exact Turn.same HH.out HB1.out rfl
        · have hd0 : (id == 0) = false := by simpa using h0
          have HID0 := Lib.hid h0
          have HCELLY := Lib.hid (fun w2 (hb : Below w.heap.size w w2) => dirs_cell (HH.out.below hb (Nat.le_refl _)) HY.out HYK.out)
          have HNL : Hid ((nameL y).length = y.names.length) := by unfold nameL; rw [List.length_map] <;> exact rfl
          clear h0
          by_cases hfull : 0 < y.names.length
          · have HM : Hid (rmdirM T ls = (24, T)) := by
              have hnm : namesM T id = y.names := by unfold namesM; rw [HY.out]
              have : rmdirE T ls = 24 := by
                unfold rmdirE
                rw [HLE.out, ← HQ.out, if_neg (by simp), if_neg (by rw [kindM_of HY.out, HYK.out]; simp), if_neg HID0.out, hnm, if_pos hfull]
              unfold rmdirM; rw [this] <;> exact rfl
            have hd : decide ((0 : Int) < (y.names.length : Int)) = true := by simp; omega
            have hd2 : decide (0 < y.names.length) = true := by simpa using hfull
            go_enter Tryz.func45, Tryz.ntmps45
            go_wp2_with fail
            (with_reducible refine HF.out.mono ?_)
            rintro e w1 ⟨rfl, hb1⟩
            have HB1 := Lib.hid hb1
            clear hb1
            go_wp2_with fail
            (with_reducible refine (HLK.out w1 HB1.out).mono ?_)
            rintro e w2 ⟨rfl, rfl⟩
            obtain ⟨c0, hmap, c1⟩ := HIT.out w1 HB1.out
            have HMAP := Lib.hid hmap
            clear hmap
            obtain ⟨y7, hyn⟩ := HCELLY.out w1 HB1.out
            have HYN := Lib.hid hyn
            clear hyn
            go_wp2_with (first | (at_lookup; refine wpList_look intK rfl _ _ 98 91 rfl Tryz.underlying98 (Tryz.zeroItem _) rfl HMAP.out id rfl hok ?_; rw [HG.out]) | (at_len; refine wpList_mlen strK rfl _ 95 3 rfl Tryz.underlying95 rfl HYN.out ?_; rw [HNL.out]))
            go_ret
            rw [HM.out]
            exact Turn.same HH.out HB1.out rfl
          · have HNY : Hid (y.names = []) := by
              have : y.names = [] := List.eq_nil_of_length_eq_zero (by omega)
              exact this
            have hn0 : y.names.length = 0 := by omega
            have HN0 := Lib.hid hn0
            have hp : ls ≠ [] := fun e => by
              have h1 : id = 0 := congrArg Prod.fst (HQ.out.trans (by rw [e] <;> exact (rfl : lookM T 0 [] = (0, 0))))
              exact HID0.out h1
            obtain ⟨d, x, nm, e1, -, hx, hxk, hn, hmem, -⟩ := place_of_look HQ.out.symm hp
            have HGN := Lib.hid (fineL_good HFL.out _ hmem)
            have hokn := okNm HGN.out
            have HM : Hid (rmdirM T ls = (0, adel id (cutName T d nm))) := by
              have hnm : namesM T id = y.names := by unfold namesM; rw [HY.out]
              have : rmdirE T ls = 0 := by
                unfold rmdirE
                rw [HLE.out, ← HQ.out, if_neg (by simp), if_neg (by rw [kindM_of HY.out, HYK.out]; simp), if_neg HID0.out, hnm, if_neg (by omega)]
              unfold rmdirM rmdirOk; rw [this, ← HQ.out, e1] <;> exact rfl
            have HPL := Lib.hid (fun w1 (hb : Below w.heap.size w w1) => place_ok a n c ls w1 (HH.out.below hb (Nat.le_refl _)) HT.out (HS.out.below hb (Nat.le_refl _)) hc hn8 e1)
            have HX := Lib.hid hx
            have HXK := Lib.hid hxk
            have hdi : id ≠ d := fun e => by subst e; rw [HY.out] at hx; cases hx; rw [HNY.out] at hn; cases hn
            have HDI := Lib.hid hdi
            have HCELL := Lib.hid (fun w2 (hb : Below w.heap.size w w2) => dirs_cell (HH.out.below hb (Nat.le_refl _)) hx hxk)
            clear hp e1 hx hxk hn hmem hdi hfull hn0
            go_enter Tryz.func45, Tryz.ntmps45
            go_wp2_with fail
            (with_reducible refine HF.out.mono ?_)
            rintro e w1 ⟨rfl, hb1⟩
            have HB1 := Lib.hid hb1
            clear hb1
            go_wp2_with fail
            (with_reducible refine (HLK.out w1 HB1.out).mono ?_)
            rintro e w2 ⟨rfl, rfl⟩
            obtain ⟨c0, hmap, c1⟩ := HIT.out w1 HB1.out
            have HMAP := Lib.hid hmap
            clear hmap
            obtain ⟨y7, hyn⟩ := HCELLY.out w1 HB1.out
            have HYN := Lib.hid hyn
            clear hyn
            go_wp2_with (first | (at_lookup; refine wpList_look intK rfl _ _ 98 91 rfl Tryz.underlying98 (Tryz.zeroItem _) rfl HMAP.out id rfl hok ?_; rw [HG.out]) | (at_len; refine wpList_mlen strK rfl _ 95 3 rfl Tryz.underlying95 rfl HYN.out ?_; rw [HNL.out, HN0.out]))
            (with_reducible refine (HPL.out w1 HB1.out).mono ?_)
            rintro e w2 ⟨rfl, hb2⟩
            have HB2 := Lib.hid (HB1.out.trans (hb2.mono HB1.out.size))
            clear hb2
            obtain ⟨d7, hnames⟩ := HCELL.out w2 HB2.out
            have HNM := Lib.hid hnames
            have HA2 := Lib.hid (HH.out.below HB2.out (Nat.le_refl _))
            clear hnames
            have HCUT : Hid (∀ w3, MapAt strK w3 (nb d) (adel nm (nameL x)) → w2.mapTurned w3 (nb d) → (TreeAt g D w3 p mb ib nb (cutName T d nm) ∧ Keeps (fun b => g b ≠ .none) w2 w3) ∧ w3.cell? ⟨p, 0, none⟩ = some (.map (some mb)) ∧ MapAt intK w3 mb (T.map fun q => (q.1, ptr (ib q.1)))) := fun w3 hM hTu => by
              have h3 := cut_at HA2.out HX.out HXK.out hM hTu
              have hm := h3.1.map
              unfold cutName at hm
              rw [amod_keys _ _ _ (fun j => ptr (ib j))] at hm
              exact ⟨h3, h3.1.cell.1, hm⟩
            go_wp2_with (first | (at_delete; refine wpList_delete strK rfl _ _ 95 3 rfl Tryz.underlying95 rfl HNM.out nm rfl hokn ?_; intro w3 hM3 hT3; obtain ⟨hA3, hp3, hm3⟩ := HCUT.out w3 hM3 hT3; have HA3 := Lib.hid hA3; have HM3 := Lib.hid hm3; clear hA3 hM3 hT3 hm3) | (at_delete; refine wpList_delete intK rfl _ _ 98 91 rfl Tryz.underlying98 rfl HM3.out id rfl hok ?_; intro w4 hM4 hT4; have HM4 := Lib.hid hM4; have HT4 := Lib.hid hT4; clear hM4 hT4))
            go_ret
            rw [HM.out]
            have hA3 := HA3.out
            have hsz := turned_size HT4.out
            have hA4 : TreeAt g D w4 p mb ib nb (adel id (cutName T d nm)) := by
              refine hA3.1.del ?_ (by omega) (fun b hb hbm => turned_below HT4.out b hb hbm)
              unfold cutName
              rw [amod_keys _ _ _ (fun j => ptr (ib j))]
              exact HM4.out
            have hgm := HH.out.tagm
            exact Turn.of rfl hA4 (((below_keeps HB2.out).trans hA3.2 (fun _ _ h => h)).trans ((turned_keeps HT4.out).mono fun b _ hb => by rw [show b = mb from hb, hgm]; simp) (fun _ _ h => h))
      · have hkk : (y.kind == 2) = false := by simpa using hk
        have HM : Hid (rmdirM T ls = (23, T)) := by
          have : rmdirE T ls = 23 := by
            unfold rmdirE
            rw [HLE.out, ← HQ.out, if_neg (by simp), if_pos (by rw [kindM_of HY.out]; exact hk)]
          unfold rmdirM; rw [this] <;> exact rfl
        go_enter Tryz.func45, Tryz.ntmps45
        go_wp2_with fail
        (with_reducible refine HF.out.mono ?_)
        rintro e w1 ⟨rfl, hb1⟩
        have HB1 := Lib.hid hb1
        clear hb1
        go_wp2_with fail
        (with_reducible refine (HLK.out w1 HB1.out).mono ?_)
        rintro e w2 ⟨rfl, rfl⟩
        obtain ⟨c0, hmap, c1⟩ := HIT.out w1 HB1.out
        have HMAP := Lib.hid hmap
        clear hmap
        go_wp2_with (first | (at_lookup; refine wpList_look intK rfl _ _ 98 91 rfl Tryz.underlying98 (Tryz.zeroItem _) rfl HMAP.out id rfl hok ?_; rw [HG.out]))
        go_ret
        rw [HM.out]
        exact Turn.same HH.out HB1.out rfl
    · have hne : (e0 == 0) = false := by simpa using he
      have hne2 : (e0 != 0) = true := by simpa using he
      have HM : Hid (rmdirM T ls = (e0, T)) := by
        have : rmdirE T ls = e0 := by
          unfold rmdirE
          rw [HLE.out, if_pos he]
        unfold rmdirM; rw [this, if_neg he]; exact rfl
      clear he
      go_enter Tryz.func45, Tryz.ntmps45
      go_wp2_with fail
      (with_reducible refine HF.out.mono ?_)
      rintro e w1 ⟨rfl, hb1⟩
      have HB1 := Lib.hid hb1
      clear hb1
      go_wp2_with fail
      (with_reducible refine (HLK.out w1 HB1.out).mono ?_)
      rintro e w2 ⟨rfl, rfl⟩
      go_wp2_with fail
      go_ret
      rw [HM.out]
      exact Turn.same HH.out HB1.out rfl
  · have HM : Hid (rmdirM T ls = (fineL ls, T)) := by
      have : rmdirE T ls = fineL ls := by unfold rmdirE lookE; rw [if_pos hf, if_pos hf]
      unfold rmdirM; rw [this, if_neg hf]; exact rfl
    have hne : (fineL ls == 0) = false := by simpa using hf
    have hne2 : (fineL ls != 0) = true := by simpa using hf
    clear hf
    go_enter Tryz.func45, Tryz.ntmps45
    go_wp2_with fail
    (with_reducible refine HF.out.mono ?_)
    rintro e w1 ⟨rfl, hb1⟩
    go_wp2_with fail
    go_ret
    rw [HM.out]
    exact Turn.same HH.out hb1 rfl
end
end Go.Proofs.YtpgklnhkfgbpgaaGreatDoor
