/- WormLives: the tree of a few files, and what lives in it. -/
import Derived.Test.YtcmlfaolooglfaaWormLive
namespace Go.Proofs.Ytcmlfaolooglfaa
open Go.ChangeShapes Go.WideShapes Go.ChangeAt Go.RowKit
set_option linter.unusedVariables false
set_option linter.unusedSimpArgs false

def lvI : Option Int → ItM
  | none => freshM 1
  | some t => ⟨1, 1, t, true, [], []⟩
def itemsL : Int → List (Option Int) → TrM
  | _, [] => []
  | i, p :: r => (i, lvI p) :: itemsL (i + 1) r
def fname (k : Nat) : Nm := [102, UInt8.ofNat (97 + k)]
def nmsL : Nat → List (Nm × Int)
  | 0 => []
  | k + 1 => nmsL k ++ [(fname k, (k : Int) + 1)]
def rootL (k : Nat) : ItM := { freshM 2 with names := nmsL k }
def stL (ps : List (Option Int)) : TrM := (0, rootL ps.length) :: itemsL 1 ps

theorem ains_end {κ α : Type} (lt : κ → κ → Bool) (x : κ × α) : ∀ l : List (κ × α), (∀ p ∈ l, lt x.1 p.1 = false) → ains lt x l = l ++ [x]
  | [], _ => rfl
  | y :: r, h => by
    unfold ains
    rw [h y (by simp), if_neg (by simp), ains_end lt x r (fun p hp => h p (by simp [hp]))]
    rfl
theorem itemsL_append (p : Option Int) : ∀ (ps : List (Option Int)) (i : Int), itemsL i (ps ++ [p]) = itemsL i ps ++ [(i + ps.length, lvI p)]
  | [], i => by simp [itemsL]
  | q :: r, i => by
    simp only [List.cons_append, itemsL, itemsL_append p r (i + 1), List.length_cons]
    rw [show i + 1 + (r.length : Int) = i + ((r.length + 1 : Nat) : Int) by omega]
theorem itemsL_keys : ∀ (ps : List (Option Int)) (i : Int) (q : Int × ItM), q ∈ itemsL i ps → i ≤ q.1 ∧ q.1 < i + ps.length
  | [], i, q, h => by cases h
  | p :: r, i, q, h => by
    simp only [itemsL] at h
    rcases List.mem_cons.1 h with rfl | h
    · simp; omega
    · have := itemsL_keys r (i + 1) q h
      simp only [List.length_cons]
      omega
theorem itemsL_get : ∀ (ps : List (Option Int)) (i : Int) (j : Nat), aget (i + j) (itemsL i ps) = (ps[j]?).map lvI
  | [], i, j => by simp [itemsL, aget]
  | p :: r, i, 0 => by simp [itemsL, aget]
  | p :: r, i, j + 1 => by
    simp only [itemsL]
    rw [aget_cons, if_neg (by omega), List.getElem?_cons_succ, ← itemsL_get r (i + 1) j]
    congr 1
    omega
theorem itemsL_sorted : ∀ (ps : List (Option Int)) (i : Int), ASorted ilt (itemsL i ps)
  | [], i => by simp [itemsL, ASorted]
  | p :: r, i => by
    simp only [itemsL]
    refine List.pairwise_cons.2 ⟨fun q hq => ?_, itemsL_sorted r (i + 1)⟩
    have := itemsL_keys r (i + 1) q hq
    simp; omega
theorem stL_sorted (ps : List (Option Int)) : ASorted ilt (stL ps) := by
  refine List.pairwise_cons.2 ⟨fun q hq => ?_, itemsL_sorted ps 1⟩
  have := itemsL_keys ps 1 q hq
  simp; omega
theorem stL_get (ps : List (Option Int)) (j : Nat) : aget ((j : Int) + 1) (stL ps) = (ps[j]?).map lvI := by
  unfold stL
  rw [aget_cons, if_neg (by simp; omega), ← itemsL_get ps 1 j]
  congr 1
  omega
theorem stL_len (ps : List (Option Int)) : (stL ps).length = ps.length + 1 := by
  have : ∀ (ps : List (Option Int)) (i : Int), (itemsL i ps).length = ps.length := by
    intro ps
    induction ps with
    | nil => intro i; rfl
    | cons p r ih => intro i; simp [itemsL, ih]
  simp [stL, this]
theorem stL_free (ps : List (Option Int)) : freeM (stL ps) = (ps.length : Int) + 1 := by
  obtain ⟨f, hf, h1, h2, h3, h4⟩ := freeM_spec (stL_sorted ps)
  have hn : aget ((ps.length : Int) + 1) (stL ps) = none := by rw [stL_get]; simp
  have hs : ∀ j, j < ps.length → (aget ((j : Int) + 1) (stL ps)).isSome = true := fun j hj => by rw [stL_get]; simp [hj]
  have : f = ps.length + 1 := by
    rcases Nat.lt_trichotomy f (ps.length + 1) with h | h | h
    · have := hs (f - 1) (by omega)
      rw [show ((f - 1 : Nat) : Int) + 1 = f by omega, h3] at this
      cases this
    · exact h
    · have := h4 (ps.length + 1) (by omega) h
      rw [show ((ps.length + 1 : Nat) : Int) = (ps.length : Int) + 1 by omega, hn] at this
      cases this
  rw [hf, this]
  omega
theorem nmsL_mem : ∀ (k : Nat) (e : Nm × Int), e ∈ nmsL k → ∃ j, j < k ∧ e = (fname j, (j : Int) + 1)
  | 0, e, h => by cases h
  | k + 1, e, h => by
    rcases List.mem_append.1 h with h | h
    · obtain ⟨j, hj, he⟩ := nmsL_mem k e h
      exact ⟨j, by omega, he⟩
    · simp at h
      exact ⟨k, by omega, h⟩
theorem fname_lt : ∀ k, k < 20 → ∀ j, j < k → bytesBefore (fname k) (fname j) = false ∧ fname j ≠ fname k := by decide
theorem fname_good : ∀ k, k < 20 → goodL (fname k) = true := by decide
theorem nmsL_put (k : Nat) (hk : k < 20) : aput bytesBefore (fname k) ((k : Int) + 1) (nmsL k) = nmsL (k + 1) ∧ aget (fname k) (nmsL k) = none := by
  have hn : aget (fname k) (nmsL k) = none := by
    rw [aget_none]
    intro p hp
    obtain ⟨j, hj, rfl⟩ := nmsL_mem k p hp
    exact (fname_lt k hk j hj).2
  refine ⟨?_, hn⟩
  unfold aput
  rw [adel_none hn, ains_end]
  · rfl
  · intro p hp
    obtain ⟨j, hj, rfl⟩ := nmsL_mem k p hp
    exact (fname_lt k hk j hj).1
theorem amod_root (f : ItM → ItM) (r : ItM) (L : TrM) (h : ∀ q ∈ L, q.1 ≠ 0) : amod 0 f ((0, r) :: L) = (0, f r) :: L := by
  unfold amod
  rw [List.map_cons, if_pos rfl]
  congr 1
  conv => rhs; rw [← List.map_id L]
  apply List.map_congr_left
  intro q hq
  rw [if_neg (h q hq)]
  rfl
theorem stL_append (ps : List (Option Int)) (p : Option Int) : stL (ps ++ [p]) = (0, rootL (ps.length + 1)) :: (itemsL 1 ps ++ [((ps.length : Int) + 1, lvI p)]) := by
  unfold stL
  rw [itemsL_append, List.length_append]
  rw [show (1 : Int) + ps.length = (ps.length : Int) + 1 by omega]
  rfl
theorem stL_make (ps : List (Option Int)) (h : ps.length < 20) : makeM (stL ps) [fname ps.length] 1 = (((ps.length : Int) + 1, 0), stL (ps ++ [none])) := by
  have hg : fineL [fname ps.length] = 0 := by
    unfold fineL
    simp [fname_good _ h]
  have hp : placeM (stL ps) [fname ps.length] = (0, fname ps.length, 0) := by
    have hk : kindM (stL ps) 0 = 2 := rfl
    unfold placeM
    simp [lookM, hk]
  have hn : namesM (stL ps) 0 = nmsL ps.length := rfl
  obtain ⟨e1, e2⟩ := nmsL_put ps.length h
  have he : makeE (stL ps) [fname ps.length] 1 = 0 := by
    unfold makeE
    rw [hg, hp, hn, e2, stL_len]
    simp
    omega
  unfold makeM
  rw [if_pos he, stL_free]
  congr 1
  unfold makeOk
  rw [hp, stL_free, stL_append]
  have hfree : aget ((ps.length : Int) + 1) (stL ps) = none := by rw [stL_get]; simp
  have ha : aput ilt ((ps.length : Int) + 1) (freshM 1) (stL ps) = stL ps ++ [((ps.length : Int) + 1, freshM 1)] := by
    unfold aput
    rw [adel_none hfree, ains_end]
    intro q hq
    simp only [decide_eq_false_iff_not]
    rcases List.mem_cons.1 hq with rfl | hq
    · simp; omega
    · have := itemsL_keys ps 1 q hq
      omega
  rw [ha]
  unfold setName
  have hL : ∀ q ∈ itemsL 1 ps ++ [((ps.length : Int) + 1, freshM 1)], q.1 ≠ 0 := by
    intro q hq
    rcases List.mem_append.1 hq with hq | hq
    · have := itemsL_keys ps 1 q hq; omega
    · simp at hq; rw [hq]; simp; omega
  rw [show stL ps ++ [((ps.length : Int) + 1, freshM 1)] = (0, rootL ps.length) :: (itemsL 1 ps ++ [((ps.length : Int) + 1, freshM 1)]) from rfl, amod_root _ _ _ hL]
  congr 2
  unfold rootL
  rw [← e1]
theorem stL_seal (ps : List (Option Int)) (t : Int) (ht : t ≤ 1099511627776) : sealM (stL (ps ++ [none])) ((ps.length : Int) + 1) t = (0, stL (ps ++ [some t])) := by
  have hx : aget ((ps.length : Int) + 1) (stL (ps ++ [none])) = some (freshM 1) := by rw [stL_get]; simp [lvI]
  have he : sealE (stL (ps ++ [none])) ((ps.length : Int) + 1) t = 0 := by
    unfold sealE
    rw [hx]
    simp [freshM]
    omega
  unfold sealM
  rw [he]
  simp only [if_pos]
  congr 1
  have hm : amod ((ps.length : Int) + 1) (fun x => { x with closed := true, til := t }) (stL (ps ++ [none])) = stL (ps ++ [some t]) := by
    rw [stL_append, stL_append]
    unfold amod
    rw [List.map_cons, if_neg (by simp; omega), List.map_append]
    congr 2
    conv => rhs; rw [← List.map_id (itemsL 1 ps)]
    apply List.map_congr_left
    intro q hq
    have := itemsL_keys ps 1 q hq
    rw [if_neg (by omega)]
    rfl
    simp [lvI, freshM]
  rw [hm]
  unfold settleM
  rw [stL_get]
  simp [lvI]
theorem liveM_append (A B : TrM) (now : Int) : liveM (A ++ B) now = liveM A now ++ liveM B now := by simp [liveM]
theorem stL_live (ps : List (Option Int)) (p : Option Int) (now : Int) : liveM (stL (ps ++ [p])) now = liveM (stL ps) now ++ (match p with | some t => if now < t then [(ps.length : Int) + 1] else [] | none => []) := by
  have h0 : ∀ k L, liveM ((0, rootL k) :: L) now = liveM L now := fun k L => by simp [liveM, livesB, rootL, freshM]
  rw [stL_append, h0, liveM_append]
  unfold stL
  rw [h0]
  congr 1
  cases p with
  | none => simp [liveM, lvI, livesB, freshM]
  | some t =>
    by_cases ht : now < t <;> simp [liveM, lvI, livesB, ht]
theorem stL_item {ps : List (Option Int)} {z : Int} {x : ItM} (hx : aget z (stL ps) = some x) : x.links = 1 := by
  have hm := aget_mem hx
  rcases List.mem_cons.1 hm with h | h
  · cases h; rfl
  · have : ∀ (ps : List (Option Int)) (i : Int), (z, x) ∈ itemsL i ps → x.links = 1 := by
      intro ps
      induction ps with
      | nil => intro i h; cases h
      | cons p r ih =>
        intro i h
        simp only [itemsL] at h
        rcases List.mem_cons.1 h with h | h
        · simp only [Prod.mk.injEq] at h
          rw [h.2]
          cases p <;> rfl
        · exact ih _ h
    exact this ps 1 h
theorem stL_til {ps : List (Option Int)} {z : Int} {x : ItM} {m : Int} (hm0 : 0 ≤ m) (hp : ∀ t, some t ∈ ps → t < m) (hx : (z, x) ∈ stL ps) : x.til ≤ m := by
  rcases List.mem_cons.1 hx with h | h
  · cases h; exact hm0
  · have : ∀ (ps : List (Option Int)) (i : Int), (∀ t, some t ∈ ps → t < m) → (z, x) ∈ itemsL i ps → x.til ≤ m := by
      intro ps
      induction ps with
      | nil => intro i _ h; cases h
      | cons p r ih =>
        intro i hp h
        simp only [itemsL] at h
        rcases List.mem_cons.1 h with h | h
        · simp only [Prod.mk.injEq] at h
          rw [h.2]
          cases p with
          | none => exact hm0
          | some t => have := hp t (by simp); simp only [lvI]; omega
        · exact ih _ (fun t ht => hp t (by simp [ht])) h
    exact this ps 1 hp h
theorem live_none {T : TrM} {now : Int} (h : ∀ z x, (z, x) ∈ T → x.til ≤ now) : liveM T now = [] := by
  unfold liveM
  rw [List.filter_eq_nil_iff.2, List.map_nil]
  intro q hq
  have := h q.1 q.2 hq
  simp [livesB]
  omega
/-- Lives a node at a time? -/
def atLives (T : TrM) (now : Int) (z : Int) : Bool := match aget z T with | some x => livesB x now | none => false
theorem live_later {T : TrM} (hs : ASorted ilt T) {now later : Int} (h : now ≤ later) : liveM T later = (liveM T now).filter (atLives T later) := by
  unfold liveM
  rw [List.filter_map, List.filter_filter]
  congr 1
  apply List.filter_congr
  intro q hq
  have : atLives T later q.1 = livesB q.2 later := by
    unfold atLives
    rw [aget_of_mem iltLaws hs hq]
  simp only [Function.comp, this]
  by_cases hl : livesB q.2 later = true
  · have : livesB q.2 now = true := by
      simp only [livesB, Bool.and_eq_true, decide_eq_true_eq] at hl ⊢
      exact ⟨hl.1, by omega⟩
    rw [hl, this]; rfl
  · have : livesB q.2 later = false := by simpa using hl
    rw [this]; simp
theorem live_mem {T : TrM} (hs : ASorted ilt T) {now z : Int} (h : z ∈ liveM T now) : ∃ x, aget z T = some x ∧ livesB x now = true := by
  obtain ⟨q, hq, rfl⟩ := List.mem_map.1 h
  obtain ⟨h1, h2⟩ := List.mem_filter.1 hq
  exact ⟨q.2, aget_of_mem iltLaws hs h1, h2⟩
theorem live_rises {T : TrM} (hs : ASorted ilt T) (now : Int) : (liveM T now).Pairwise (· < ·) := by
  unfold liveM
  rw [List.pairwise_map]
  exact (List.Pairwise.filter _ hs).imp fun {a b} h => by simpa using h
theorem filter_at {α : Type} (q : α → Bool) : ∀ (l : List α) (i : Nat) (x : α), l[i]? = some x → q x = true → (l.filter q)[((l.take i).filter q).length]? = some x
  | [], i, x, h, _ => by simp at h
  | y :: r, 0, x, h, hq => by
    simp only [List.getElem?_cons_zero, Option.some.injEq] at h
    subst h
    simp [hq]
  | y :: r, i + 1, x, h, hq => by
    have := filter_at q r i x (by simpa using h) hq
    rw [List.take_succ_cons, List.filter_cons, List.filter_cons]
    by_cases hy : q y = true
    · simpa [hy] using this
    · simpa [hy] using this
theorem filter_step {α : Type} (q : α → Bool) {l : List α} {i : Nat} {x : α} (h : l[i]? = some x) : ((l.take (i + 1)).filter q).length = ((l.take i).filter q).length + if q x then 1 else 0 := by
  obtain ⟨hi, e⟩ := List.getElem?_eq_some_iff.1 h
  rw [List.take_succ_eq_append_getElem hi, e, List.filter_append, List.length_append]
  congr 1
  by_cases hq : q x <;> simp [hq]
end Go.Proofs.Ytcmlfaolooglfaa
