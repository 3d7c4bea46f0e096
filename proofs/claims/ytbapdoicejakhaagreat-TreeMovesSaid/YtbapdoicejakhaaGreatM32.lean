/- The reference: gone. -/
import Derived.Test.YtbapdoicejakhaaGreatM30
import Derived.Deep.CutBlock
import Derived.Deep.DeepCutAuto
namespace Go.Proofs.YtbapdoicejakhaaGreat
open Go.ChangeShapes Go.WideShapes Go.ChangeAt Go.RowKit
set_option linter.unusedVariables false
set_option linter.unusedSimpArgs false

/-- The rows that 'X[:k]' and 'X[k+1:]' read. -/
theorem cut_rows {F : Nat → Prop} {w w1 : World} {b off n c k s : Nat} {vs : List Value} (h : RowAt F w (some ⟨b, off, none⟩) (n * s) vs) (hk : k < n) (hb : Below w.heap.size w w1) :
    RowAt F w1 (some ⟨b, off, none⟩) (k * s) (vs.take (k * s)) ∧ RowAt F w1 (if c = k + 1 then some ⟨b, off, none⟩ else some ⟨b, off + (k + 1) * s, none⟩) ((n - (k + 1)) * s) (vs.drop ((k + 1) * s)) ∨ c < n := by
  by_cases hcn : c < n
  · exact .inr hcn
  · left
    have h1 := h.below hb (Nat.le_refl _)
    have h2 := h1.take (k * s)
    have hks : k * s ≤ n * s := Nat.mul_le_mul_right s (by omega)
    rw [Nat.min_eq_right hks] at h2
    have h4 := h1.drop ((k + 1) * s)
    rw [← Nat.sub_mul] at h4
    refine ⟨h2, ?_⟩
    by_cases hce : c = k + 1
    · rw [if_pos hce]
      have hl := h.length
      have hkn : k + 1 = n := by omega
      exact RowAt.zero _ _ _ (by rw [show n - (k + 1) = 0 by omega, Nat.zero_mul]) (by rw [hkn]; exact List.drop_of_length_le (by omega))
    · rw [if_neg hce]; exact h4
theorem head_facts {w : World} {r : Nat} {x0 x1 x2 : Value} (h1 : w.heap[r]? = some (.cells #[x0, x1, x2] 100 (0, 0))) : w.cell? ⟨r, 0, none⟩ = some x0 ∧ w.cell? ⟨r, 1, none⟩ = some x1 ∧ w.cell? ⟨r, 2, none⟩ = some x2 ∧ ∀ j, w.frozen? ⟨r, j, none⟩ = false := by
  refine ⟨?_, ?_, ?_, fun j => ?_⟩ <;> simp [World.cell?, World.frozen?, h1]
section
variable {F : Nat → Prop} {r : Nat} {T : TrM} {D : List (List UInt8)} {E : List Ent}
set_option maxRecDepth 100000 in
set_option maxHeartbeats 8000000 in
theorem rgone_any (id : Int) (k : Nat) (w : World) (h : RefP F w r T D E) (hl : T.length ≤ 64) (hD : D.length = T.length) (hi : idxI (isAt id) T = k) (hk : k < T.length) :
    Calls Tryz.prog 69 #[ptr r, .int .i64 id] w (RTurnP F w r (T.take k ++ T.drop (k + 1)) (D.take k ++ D.drop (k + 1)) E (.tuple #[])) := by
  obtain ⟨i6, a6, b6, s6, d6⟩ := info_parts nodeInfo
  have HI6 := Lib.hid (And.intro a6 (And.intro b6 (And.intro s6 d6)))
  obtain ⟨i1, a1, b1, s1, d1⟩ := info_parts dataInfo
  have HI1 := Lib.hid (And.intro a1 (And.intro b1 (And.intro s1 d1)))
  have HAT := Lib.hid (rat_any id w h hl)
  rw [hi] at HAT
  have HH := Lib.hid h
  obtain ⟨aN, cN, aD, cD, aE, cE, h1, h2, h3, h4, h8, h9, h10, h11⟩ := h.head
  obtain ⟨vs, hv, hrow⟩ := h9
  obtain ⟨bN, oN, rfl, hFN, hbN, -, -⟩ := h8.wide nodeC_len rfl (List.getElem?_eq_getElem hk) (by omega)
  obtain ⟨bD, oD, rfl, hFD, hbD, -⟩ := hv.at_ (by omega)
  have hlv := hv.length
  have hrw := h.low r h.own
  have HE := Lib.hid (Each.cut (F := Off F r) (w := w) (vs := vs) (bs := D) hrow hlv k (by omega))
  have HO1 := Lib.hid (And.intro (fun u hu => Each.one (F := Off F r) (w := w) hrow hlv u (List.mem_of_mem_take hu) : ∀ u ∈ vs.take k, u.oneCell' = true) (fun u hu => Each.one (F := Off F r) (w := w) hrow hlv u (List.mem_of_mem_drop hu) : ∀ u ∈ vs.drop (k + 1), u.oneCell' = true))
  have hLT : (T.take k ++ T.drop (k + 1)).length = k + (T.length - (k + 1)) := by simp; omega
  have hLD : (D.take k ++ D.drop (k + 1)).length = k + (T.length - (k + 1)) := by simp; omega
  rw [hD] at h1 h3 hv hlv
  generalize hn : T.length = n at *
  have HLT := Lib.hid hLT
  have HLD := Lib.hid hLD
  obtain ⟨p0, p1, p2, pf⟩ := head_facts h1
  have HP1 := Lib.hid h1
  have HV := Lib.hid hv
  have HK6 : Hid (∀ w1, Below w.heap.size w w1 → w1.cell? ⟨r, 0, none⟩ = some (.slice (some ⟨bN, oN, none⟩) n cN) ∧ w1.frozen? ⟨r, 0, none⟩ = false) := fun w1 hb => ⟨by rw [hb.cell (p := ⟨r, 0, none⟩) hrw]; exact p0, by rw [hb.frozen (p := ⟨r, 0, none⟩) hrw]; exact pf 0⟩
  have HS6 : Hid (∀ w1, Below w.heap.size w w1 → RowAt (Off F r) w1 (some ⟨bN, oN, none⟩) (k * 6) ((T.take k).flatMap nodeC) ∧ RowAt (Off F r) w1 (if cN = k + 1 then some ⟨bN, oN, none⟩ else some ⟨bN, oN + (k + 1) * 6, none⟩) ((n - (k + 1)) * 6) ((T.drop (k + 1)).flatMap nodeC)) := fun w1 hb => by
    have := (cut_rows (c := cN) h8 hk hb).resolve_right (by omega)
    rwa [flatM_take nodeC 6 nodeC_len, flatM_drop nodeC 6 nodeC_len] at this
  have HCD : Hid (n ≤ cD) := h3
  have i0 : (0 : Int) ≤ k := by omega
  have i1' : (k : Int) ≤ cN := by omega
  have i2 : (k : Int) + 1 ≤ n := by omega
  have i3 : (0 : Int) ≤ (k : Int) + 1 := by omega
  have i4 : (n : Int) ≤ cN := by omega
  have i5 : (k : Int) ≤ cD := by omega
  have i6' : (n : Int) ≤ cD := by omega
  have e1 : IntKind.i64.wrap ((k : Int) + 1) = (k : Int) + 1 := IntWalk.i64_in _ (by omega)
  clear a6 b6 s6 d6 a1 b1 s1 d1 hrow hv hLT hLD h1 h8 h10 h11 hD hi hn h hlv p0 p1 p2 pf
  go_enter Tryz.func69, Tryz.ntmps69
  go_wp2_with fail
  (with_reducible refine HAT.out.mono ?_)
  rintro e w' ⟨rfl, rfl⟩
  go_upto_region 1 with (fail)
  go_cut [] (fun wx => NodesSet w r (.slice (some ⟨bD, oD, none⟩) n cD) (.slice aE E.length cE) (T.take k ++ T.drop (k + 1)) wx)
  case first =>
    go_wp2
    refine wp_region_noPanic ?_
    refine wp_region_L (last := 19) (S := (fun w' => w'.cell? ⟨r, 0, none⟩ = some (.slice (some ⟨bN, oN, none⟩) n cN) ∧ w'.frozen? ⟨r, 0, none⟩ = false)) (by kernel_rfl) ?_ (fun hS => ?_)
    · exact HK6.out _ (Below.refl _ _).drew
    refine wpAnyL_take (i := 0) (oi := ?oi1) (v := ?v1) ?hi1 (by kernel_rfl) (by kernel_rfl) (by kernel_rfl) (by kernel_rfl) (by kernel_rfl) ?hq1 (Or.inl ⟨?hw1, ?hy1⟩) hS ?rest1
    case hi1 => simp only [List.getElem?_toArray, List.getElem?_cons_succ, List.getElem?_cons_zero]; rfl
    case hq1 => exact fun _ _ _ h => h
    case hw1 => rfl
    case hy1 => intro w hSw; (try dsimp only at hSw); go_simp; (try with_reducible rfl)
    try simp only [Act.put, List.setIfInBounds_toArray, List.set_cons_zero, List.set_cons_succ]
    refine wpAnyL_take (i := 2) (oi := ?oi2) (v := ?v2) ?hi2 (by kernel_rfl) (by kernel_rfl) (by kernel_rfl) (by kernel_rfl) (by kernel_rfl) ?hq2 (Or.inl ⟨?hw2, ?hy2⟩) hS ?rest2
    case hi2 => simp only [List.getElem?_toArray, List.getElem?_cons_succ, List.getElem?_cons_zero]; rfl
    case hq2 => exact fun _ _ _ h => h
    case hw2 => rfl
    case hy2 => intro w hSw; (try dsimp only at hSw); go_simp; (try with_reducible rfl)
    try simp only [Act.put, List.setIfInBounds_toArray, List.set_cons_zero, List.set_cons_succ]
    refine wpAnyL_take (i := 3) (oi := ?oi3) (v := ?v3) ?hi3 (by kernel_rfl) (by kernel_rfl) (by kernel_rfl) (by kernel_rfl) (by kernel_rfl) ?hq3 (Or.inl ⟨?hw3, ?hy3⟩) hS ?rest3
    case hi3 => simp only [List.getElem?_toArray, List.getElem?_cons_succ, List.getElem?_cons_zero]; rfl
    case hq3 => exact fun _ _ _ h => h
    case hw3 => rfl
    case hy3 => intro w hSw; (try dsimp only at hSw); go_simp; (try with_reducible rfl)
    try simp only [Act.put, List.setIfInBounds_toArray, List.set_cons_zero, List.set_cons_succ]
    refine wpAnyL_take (i := 4) (oi := ?oi4) (v := ?v4) ?hi4 (by kernel_rfl) (by kernel_rfl) (by kernel_rfl) (by kernel_rfl) (by kernel_rfl) ?hq4 (Or.inl ⟨?hw4, ?hy4⟩) hS ?rest4
    case hi4 => simp only [List.getElem?_toArray, List.getElem?_cons_succ, List.getElem?_cons_zero]; rfl
    case hq4 => exact fun _ _ _ h => h
    case hw4 => rfl
    case hy4 => intro w hSw; (try dsimp only at hSw); go_simp; (try with_reducible rfl)
    try simp only [Act.put, List.setIfInBounds_toArray, List.set_cons_zero, List.set_cons_succ]
    refine wpAnyL_take (i := 5) (oi := ?oi5) (v := ?v5) ?hi5 (by kernel_rfl) (by kernel_rfl) (by kernel_rfl) (by kernel_rfl) (by kernel_rfl) ?hq5 (Or.inl ⟨?hw5, ?hy5⟩) hS ?rest5
    case hi5 => simp only [List.getElem?_toArray, List.getElem?_cons_succ, List.getElem?_cons_zero]; rfl
    case hq5 => exact fun _ _ _ h => h
    case hw5 => rfl
    case hy5 => intro w hSw; (try dsimp only at hSw); go_simp; (try with_reducible rfl)
    try simp only [Act.put, List.setIfInBounds_toArray, List.set_cons_zero, List.set_cons_succ]
    refine wpAnyL_take (i := 6) (oi := ?oi6) (v := ?v6) ?hi6 (by kernel_rfl) (by kernel_rfl) (by kernel_rfl) (by kernel_rfl) (by kernel_rfl) ?hq6 (Or.inl ⟨?hw6, ?hy6⟩) hS ?rest6
    case hi6 => simp only [List.getElem?_toArray, List.getElem?_cons_succ, List.getElem?_cons_zero]; rfl
    case hq6 => exact fun _ _ _ h => h
    case hw6 => rfl
    case hy6 => intro w hSw; (try dsimp only at hSw); go_simp; (try with_reducible rfl)
    try simp only [Act.put, List.setIfInBounds_toArray, List.set_cons_zero, List.set_cons_succ]
    refine wpAnyL_take (i := 7) (oi := ?oi7) (v := ?v7) ?hi7 (by kernel_rfl) (by kernel_rfl) (by kernel_rfl) (by kernel_rfl) (by kernel_rfl) ?hq7 (Or.inl ⟨?hw7, ?hy7⟩) hS ?rest7
    case hi7 => simp only [List.getElem?_toArray, List.getElem?_cons_succ, List.getElem?_cons_zero]; rfl
    case hq7 => exact fun _ _ _ h => h
    case hw7 => rfl
    case hy7 => intro w hSw; (try dsimp only at hSw); go_simp; (try with_reducible rfl)
    try simp only [Act.put, List.setIfInBounds_toArray, List.set_cons_zero, List.set_cons_succ]
    refine wpAnyL_take (i := 9) (oi := ?oi8) (v := ?v8) ?hi8 (by kernel_rfl) (by kernel_rfl) (by kernel_rfl) (by kernel_rfl) (by kernel_rfl) ?hq8 (Or.inl ⟨?hw8, ?hy8⟩) hS ?rest8
    case hi8 => simp only [List.getElem?_toArray, List.getElem?_cons_succ, List.getElem?_cons_zero]; rfl
    case hq8 => exact fun _ _ _ h => h
    case hw8 => rfl
    case hy8 => intro w hSw; (try dsimp only at hSw); go_simp; (try with_reducible rfl)
    try simp only [Act.put, List.setIfInBounds_toArray, List.set_cons_zero, List.set_cons_succ]
    refine wpAnyL_take (i := 10) (oi := ?oi9) (v := ?v9) ?hi9 (by kernel_rfl) (by kernel_rfl) (by kernel_rfl) (by kernel_rfl) (by kernel_rfl) ?hq9 (Or.inl ⟨?hw9, ?hy9⟩) hS ?rest9
    case hi9 => simp only [List.getElem?_toArray, List.getElem?_cons_succ, List.getElem?_cons_zero]; rfl
    case hq9 => exact fun _ _ _ h => h
    case hw9 => rfl
    case hy9 => intro w hSw; (try dsimp only at hSw); go_simp; (try with_reducible rfl)
    try simp only [Act.put, List.setIfInBounds_toArray, List.set_cons_zero, List.set_cons_succ]
    refine wpAnyL_take (i := 11) (oi := ?oi10) (v := ?v10) ?hi10 (by kernel_rfl) (by kernel_rfl) (by kernel_rfl) (by kernel_rfl) (by kernel_rfl) ?hq10 (Or.inl ⟨?hw10, ?hy10⟩) hS ?rest10
    case hi10 => simp only [List.getElem?_toArray, List.getElem?_cons_succ, List.getElem?_cons_zero]; rfl
    case hq10 => exact fun _ _ _ h => h
    case hw10 => rfl
    case hy10 => intro w hSw; (try dsimp only at hSw); go_simp; (try with_reducible rfl)
    try simp only [Act.put, List.setIfInBounds_toArray, List.set_cons_zero, List.set_cons_succ]
    refine wpAnyL_take (i := 12) (oi := ?oi11) (v := ?v11) ?hi11 (by kernel_rfl) (by kernel_rfl) (by kernel_rfl) (by kernel_rfl) (by kernel_rfl) ?hq11 (Or.inl ⟨?hw11, ?hy11⟩) hS ?rest11
    case hi11 => simp only [List.getElem?_toArray, List.getElem?_cons_succ, List.getElem?_cons_zero]; rfl
    case hq11 => exact fun _ _ _ h => h
    case hw11 => rfl
    case hy11 => intro w hSw; (try dsimp only at hSw); go_simp; (try with_reducible rfl)
    try simp only [Act.put, List.setIfInBounds_toArray, List.set_cons_zero, List.set_cons_succ]
    refine wpAnyL_take (i := 13) (oi := ?oi12) (v := ?v12) ?hi12 (by kernel_rfl) (by kernel_rfl) (by kernel_rfl) (by kernel_rfl) (by kernel_rfl) ?hq12 (Or.inl ⟨?hw12, ?hy12⟩) hS ?rest12
    case hi12 => simp only [List.getElem?_toArray, List.getElem?_cons_succ, List.getElem?_cons_zero]; rfl
    case hq12 => exact fun _ _ _ h => h
    case hw12 => rfl
    case hy12 => intro w hSw; (try dsimp only at hSw); go_simp; (try with_reducible rfl)
    try simp only [Act.put, List.setIfInBounds_toArray, List.set_cons_zero, List.set_cons_succ]
    refine wpAnyL_take (i := 14) (oi := ?oi13) (v := ?v13) ?hi13 (by kernel_rfl) (by kernel_rfl) (by kernel_rfl) (by kernel_rfl) (by kernel_rfl) ?hq13 (Or.inl ⟨?hw13, ?hy13⟩) hS ?rest13
    case hi13 => simp only [List.getElem?_toArray, List.getElem?_cons_succ, List.getElem?_cons_zero]; rfl
    case hq13 => exact fun _ _ _ h => h
    case hw13 => rfl
    case hy13 => intro w hSw; (try dsimp only at hSw); go_simp; (try with_reducible rfl)
    try simp only [Act.put, List.setIfInBounds_toArray, List.set_cons_zero, List.set_cons_succ]
    refine wpAnyL_take (i := 15) (oi := ?oi14) (v := ?v14) ?hi14 (by kernel_rfl) (by kernel_rfl) (by kernel_rfl) (by kernel_rfl) (by kernel_rfl) ?hq14 (Or.inl ⟨?hw14, ?hy14⟩) hS ?rest14
    case hi14 => simp only [List.getElem?_toArray, List.getElem?_cons_succ, List.getElem?_cons_zero]; rfl
    case hq14 => exact fun _ _ _ h => h
    case hw14 => rfl
    case hy14 => intro w hSw; (try dsimp only at hSw); go_simp; (try with_reducible rfl)
    try simp only [Act.put, List.setIfInBounds_toArray, List.set_cons_zero, List.set_cons_succ]
    refine wpAnyL_ready (rs := [1]) (by kernel_rfl) (by simp) ?_
    refine AllReadyL.cons (o := ?o15) ?ho15 (fun K hK => ?_) AllReadyL.nil
    case ho15 => simp only [List.getElem?_toArray, List.getElem?_cons_succ, List.getElem?_cons_zero]; rfl
    go_simp
    refine hK.out _ _ (fun _ => HK6.out _ ((Below.refl _ _).drew.alloc (Nat.le_refl _) _)) (fun hS => ?_)
    replace hS := hS (by decide)
    clear hK K
    try simp only [Act.put, List.setIfInBounds_toArray, List.set_cons_zero, List.set_cons_succ]
    refine wpAnyL_ready (rs := [8]) (by kernel_rfl) (by simp) ?_
    refine AllReadyL.cons (o := ?o16) ?ho16 (fun K hK => ?_) AllReadyL.nil
    case ho16 => simp only [List.getElem?_toArray, List.getElem?_cons_succ, List.getElem?_cons_zero]; rfl
    refine step_append_rows (by rfl) (.tmp 9) (.tmp 15) 97 (by rfl) w.heap.size 29 _ _ 6 48 Tryz.underlying97 HI6.out.1 HI6.out.2.1 HI6.out.2.2.1 HI6.out.2.2.2 rfl (by omega) _ 0 [] (by rfl) (own_new (MapKept.heap_alloc w.drew _).1 (Nat.le_refl _)) _ k _ ((T.take k).flatMap nodeC) (by rfl) (HS6.out _ ((Below.refl _ _).drew.alloc (Nat.le_refl _) _)).1 (nodeC_one _) (by unfold maxLen; omega) (by omega) (by simp) ?_
    intro A1 c1 u1 hown1 hb1
    have hB1 : Below w.heap.size w u1 := ((Below.refl _ _).drew.alloc (Nat.le_refl _) _).trans hb1
    refine hK.out _ _ (fun _ => HK6.out _ hB1) (fun hS => ?_)
    replace hS := hS (by decide)
    clear hK K
    try simp only [Act.put, List.setIfInBounds_toArray, List.set_cons_zero, List.set_cons_succ]
    refine wpAnyL_ready (rs := [16]) (by kernel_rfl) (by simp) ?_
    refine AllReadyL.cons (o := ?o17) ?ho17 (fun K hK => ?_) AllReadyL.nil
    case ho17 => simp only [List.getElem?_toArray, List.getElem?_cons_succ, List.getElem?_cons_zero]; rfl
    refine step_append_rows (by rfl) (.tmp 16) (.tmp 23) 97 (by rfl) w.heap.size 29 _ _ 6 48 Tryz.underlying97 HI6.out.1 HI6.out.2.1 HI6.out.2.2.1 HI6.out.2.2.2 rfl (by omega) _ _ _ (by rfl) hown1 _ (n - (k + 1)) _ ((T.drop (k + 1)).flatMap nodeC) (by rfl) (HS6.out _ hB1).2 (nodeC_one _) (by unfold maxLen; omega) (by omega) hB1.size ?_
    intro A2 c2 u2 hown2 hb2
    have hB2 : Below w.heap.size w u2 := hB1.trans hb2
    refine hK.out _ _ (fun _ => HK6.out _ hB2) (fun hS => ?_)
    replace hS := hS (by decide)
    clear hK K
    try simp only [Act.put, List.setIfInBounds_toArray, List.set_cons_zero, List.set_cons_succ]
    refine wpAnyL_take (i := 17) (oi := ?oi18) (v := ?v18) ?hi18 (by kernel_rfl) (by kernel_rfl) (by kernel_rfl) (by kernel_rfl) (by kernel_rfl) ?hq18 (Or.inl ⟨?hw18, ?hy18⟩) hS ?rest18
    case hi18 => simp only [List.getElem?_toArray, List.getElem?_cons_succ, List.getElem?_cons_zero]; rfl
    case hq18 => exact fun _ _ _ h => h
    case hw18 => rfl
    case hy18 => intro w hSw; (try dsimp only at hSw); go_simp; (try with_reducible rfl)
    try simp only [Act.put, List.setIfInBounds_toArray, List.set_cons_zero, List.set_cons_succ]
    refine wpAnyL_take (i := 18) (oi := ?oi19) (v := ?v19) ?hi19 (by kernel_rfl) (by kernel_rfl) (by kernel_rfl) (by kernel_rfl) (by kernel_rfl) ?hq19 (Or.inl ⟨?hw19, ?hy19⟩) hS ?rest19
    case hi19 => simp only [List.getElem?_toArray, List.getElem?_cons_succ, List.getElem?_cons_zero]; rfl
    case hq19 => exact fun _ _ _ h => h
    case hw19 => rfl
    case hy19 => intro w hSw; (try dsimp only at hSw); go_simp; (try with_reducible rfl)
    try simp only [Act.put, List.setIfInBounds_toArray, List.set_cons_zero, List.set_cons_succ]
    refine wpAnyL_ready (rs := [19]) (by kernel_rfl) (by simp) ?_
    refine AllReadyL.cons (o := ?o20) ?ho20 (fun K hK => ?_) AllReadyL.nil
    case ho20 => simp only [List.getElem?_toArray, List.getElem?_cons_succ, List.getElem?_cons_zero]; rfl
    go_simp
    refine hK.out _ _ (fun h => absurd rfl h) (fun hS => ?_)
    clear hS hK K
    try simp only [Act.put, List.setIfInBounds_toArray, List.set_cons_zero, List.set_cons_succ]
    refine wpAnyL_done (by kernel_rfl) ?_ _
    refine NoPanic.normal ?_
    go_wp2_with fail
    all_goals (
      go_meet
      have hl := HLT.out
      have e5 : 0 + k + (n - (k + 1)) = (T.take k ++ T.drop (k + 1)).length := by omega
      obtain ⟨-, hcc, -, hrow2⟩ := own_row (w := w) hown2 (by unfold maxLen; omega) (Nat.le_refl _)
      rw [List.nil_append, ← List.flatMap_append, e5] at hrow2
      rw [e5] at hcc
      have := NodesSet.mk_ hrw HP1.out hB2 hcc hrow2 (own_plain hown2)
      rw [hl] at this
      exact this)
  case rest =>
    obtain ⟨w1, rfl⟩ : ∃ w1 : World, w1 = wc := ⟨_, rfl⟩
    have HM := Lib.hid hcut
    obtain ⟨hK, -, aM, cM, h5, -, -, -⟩ := hcut
    obtain ⟨p0, p1, p2, pf⟩ := head_facts h5
    have hs1 := hK.size
    have hr1 : r < w1.heap.size := by omega
    have hv1 : RowAt (Off (Grow F w w1) r) w1 (some ⟨bD, oD, none⟩) (n * 1) vs := by rw [Nat.mul_one]; exact row_old hK HV.out
    have HKW := Lib.hid hK
    have HK1 : Hid (∀ w2, Below w1.heap.size w1 w2 → w2.cell? ⟨r, 1, none⟩ = some (.slice (some ⟨bD, oD, none⟩) n cD) ∧ w2.frozen? ⟨r, 1, none⟩ = false) := fun w2 hb => ⟨by rw [hb.cell (p := ⟨r, 1, none⟩) hr1]; exact p1, by rw [hb.frozen (p := ⟨r, 1, none⟩) hr1]; exact pf 1⟩
    have HS1 : Hid (∀ w2, Below w1.heap.size w1 w2 → RowAt (Off (Grow F w w1) r) w2 (some ⟨bD, oD, none⟩) (k * 1) (vs.take k) ∧ RowAt (Off (Grow F w w1) r) w2 (if cD = k + 1 then some ⟨bD, oD, none⟩ else some ⟨bD, oD + (k + 1), none⟩) ((n - (k + 1)) * 1) (vs.drop (k + 1))) := fun w2 hb => by
      have := (cut_rows (c := cD) hv1 hk hb).resolve_right (by have := HCD.out; omega)
      rw [Nat.mul_one, Nat.mul_one] at this
      simpa only [Nat.mul_one] using this
    clear hK h5 p0 p1 p2 pf hv1
    go_wp2
    refine wp_region_noPanic ?_
    refine wp_region_L (last := 19) (S := (fun w' => w'.cell? ⟨r, 1, none⟩ = some (.slice (some ⟨bD, oD, none⟩) n cD) ∧ w'.frozen? ⟨r, 1, none⟩ = false)) (by kernel_rfl) ?_ (fun hS => ?_)
    · exact HK1.out _ (Below.refl _ _).drew
    refine wpAnyL_take (i := 0) (oi := ?oi21) (v := ?v21) ?hi21 (by kernel_rfl) (by kernel_rfl) (by kernel_rfl) (by kernel_rfl) (by kernel_rfl) ?hq21 (Or.inl ⟨?hw21, ?hy21⟩) hS ?rest21
    case hi21 => simp only [List.getElem?_toArray, List.getElem?_cons_succ, List.getElem?_cons_zero]; rfl
    case hq21 => exact fun _ _ _ h => h
    case hw21 => rfl
    case hy21 => intro w hSw; (try dsimp only at hSw); go_simp; (try with_reducible rfl)
    try simp only [Act.put, List.setIfInBounds_toArray, List.set_cons_zero, List.set_cons_succ]
    refine wpAnyL_take (i := 2) (oi := ?oi22) (v := ?v22) ?hi22 (by kernel_rfl) (by kernel_rfl) (by kernel_rfl) (by kernel_rfl) (by kernel_rfl) ?hq22 (Or.inl ⟨?hw22, ?hy22⟩) hS ?rest22
    case hi22 => simp only [List.getElem?_toArray, List.getElem?_cons_succ, List.getElem?_cons_zero]; rfl
    case hq22 => exact fun _ _ _ h => h
    case hw22 => rfl
    case hy22 => intro w hSw; (try dsimp only at hSw); go_simp; (try with_reducible rfl)
    try simp only [Act.put, List.setIfInBounds_toArray, List.set_cons_zero, List.set_cons_succ]
    refine wpAnyL_take (i := 3) (oi := ?oi23) (v := ?v23) ?hi23 (by kernel_rfl) (by kernel_rfl) (by kernel_rfl) (by kernel_rfl) (by kernel_rfl) ?hq23 (Or.inl ⟨?hw23, ?hy23⟩) hS ?rest23
    case hi23 => simp only [List.getElem?_toArray, List.getElem?_cons_succ, List.getElem?_cons_zero]; rfl
    case hq23 => exact fun _ _ _ h => h
    case hw23 => rfl
    case hy23 => intro w hSw; (try dsimp only at hSw); go_simp; (try with_reducible rfl)
    try simp only [Act.put, List.setIfInBounds_toArray, List.set_cons_zero, List.set_cons_succ]
    refine wpAnyL_take (i := 4) (oi := ?oi24) (v := ?v24) ?hi24 (by kernel_rfl) (by kernel_rfl) (by kernel_rfl) (by kernel_rfl) (by kernel_rfl) ?hq24 (Or.inl ⟨?hw24, ?hy24⟩) hS ?rest24
    case hi24 => simp only [List.getElem?_toArray, List.getElem?_cons_succ, List.getElem?_cons_zero]; rfl
    case hq24 => exact fun _ _ _ h => h
    case hw24 => rfl
    case hy24 => intro w hSw; (try dsimp only at hSw); go_simp; (try with_reducible rfl)
    try simp only [Act.put, List.setIfInBounds_toArray, List.set_cons_zero, List.set_cons_succ]
    refine wpAnyL_take (i := 5) (oi := ?oi25) (v := ?v25) ?hi25 (by kernel_rfl) (by kernel_rfl) (by kernel_rfl) (by kernel_rfl) (by kernel_rfl) ?hq25 (Or.inl ⟨?hw25, ?hy25⟩) hS ?rest25
    case hi25 => simp only [List.getElem?_toArray, List.getElem?_cons_succ, List.getElem?_cons_zero]; rfl
    case hq25 => exact fun _ _ _ h => h
    case hw25 => rfl
    case hy25 => intro w hSw; (try dsimp only at hSw); go_simp; (try with_reducible rfl)
    try simp only [Act.put, List.setIfInBounds_toArray, List.set_cons_zero, List.set_cons_succ]
    refine wpAnyL_take (i := 6) (oi := ?oi26) (v := ?v26) ?hi26 (by kernel_rfl) (by kernel_rfl) (by kernel_rfl) (by kernel_rfl) (by kernel_rfl) ?hq26 (Or.inl ⟨?hw26, ?hy26⟩) hS ?rest26
    case hi26 => simp only [List.getElem?_toArray, List.getElem?_cons_succ, List.getElem?_cons_zero]; rfl
    case hq26 => exact fun _ _ _ h => h
    case hw26 => rfl
    case hy26 => intro w hSw; (try dsimp only at hSw); go_simp; (try with_reducible rfl)
    try simp only [Act.put, List.setIfInBounds_toArray, List.set_cons_zero, List.set_cons_succ]
    refine wpAnyL_take (i := 7) (oi := ?oi27) (v := ?v27) ?hi27 (by kernel_rfl) (by kernel_rfl) (by kernel_rfl) (by kernel_rfl) (by kernel_rfl) ?hq27 (Or.inl ⟨?hw27, ?hy27⟩) hS ?rest27
    case hi27 => simp only [List.getElem?_toArray, List.getElem?_cons_succ, List.getElem?_cons_zero]; rfl
    case hq27 => exact fun _ _ _ h => h
    case hw27 => rfl
    case hy27 => intro w hSw; (try dsimp only at hSw); go_simp; (try with_reducible rfl)
    try simp only [Act.put, List.setIfInBounds_toArray, List.set_cons_zero, List.set_cons_succ]
    refine wpAnyL_take (i := 9) (oi := ?oi28) (v := ?v28) ?hi28 (by kernel_rfl) (by kernel_rfl) (by kernel_rfl) (by kernel_rfl) (by kernel_rfl) ?hq28 (Or.inl ⟨?hw28, ?hy28⟩) hS ?rest28
    case hi28 => simp only [List.getElem?_toArray, List.getElem?_cons_succ, List.getElem?_cons_zero]; rfl
    case hq28 => exact fun _ _ _ h => h
    case hw28 => rfl
    case hy28 => intro w hSw; (try dsimp only at hSw); go_simp; (try with_reducible rfl)
    try simp only [Act.put, List.setIfInBounds_toArray, List.set_cons_zero, List.set_cons_succ]
    refine wpAnyL_take (i := 10) (oi := ?oi29) (v := ?v29) ?hi29 (by kernel_rfl) (by kernel_rfl) (by kernel_rfl) (by kernel_rfl) (by kernel_rfl) ?hq29 (Or.inl ⟨?hw29, ?hy29⟩) hS ?rest29
    case hi29 => simp only [List.getElem?_toArray, List.getElem?_cons_succ, List.getElem?_cons_zero]; rfl
    case hq29 => exact fun _ _ _ h => h
    case hw29 => rfl
    case hy29 => intro w hSw; (try dsimp only at hSw); go_simp; (try with_reducible rfl)
    try simp only [Act.put, List.setIfInBounds_toArray, List.set_cons_zero, List.set_cons_succ]
    refine wpAnyL_take (i := 11) (oi := ?oi30) (v := ?v30) ?hi30 (by kernel_rfl) (by kernel_rfl) (by kernel_rfl) (by kernel_rfl) (by kernel_rfl) ?hq30 (Or.inl ⟨?hw30, ?hy30⟩) hS ?rest30
    case hi30 => simp only [List.getElem?_toArray, List.getElem?_cons_succ, List.getElem?_cons_zero]; rfl
    case hq30 => exact fun _ _ _ h => h
    case hw30 => rfl
    case hy30 => intro w hSw; (try dsimp only at hSw); go_simp; (try with_reducible rfl)
    try simp only [Act.put, List.setIfInBounds_toArray, List.set_cons_zero, List.set_cons_succ]
    refine wpAnyL_take (i := 12) (oi := ?oi31) (v := ?v31) ?hi31 (by kernel_rfl) (by kernel_rfl) (by kernel_rfl) (by kernel_rfl) (by kernel_rfl) ?hq31 (Or.inl ⟨?hw31, ?hy31⟩) hS ?rest31
    case hi31 => simp only [List.getElem?_toArray, List.getElem?_cons_succ, List.getElem?_cons_zero]; rfl
    case hq31 => exact fun _ _ _ h => h
    case hw31 => rfl
    case hy31 => intro w hSw; (try dsimp only at hSw); go_simp; (try with_reducible rfl)
    try simp only [Act.put, List.setIfInBounds_toArray, List.set_cons_zero, List.set_cons_succ]
    refine wpAnyL_take (i := 13) (oi := ?oi32) (v := ?v32) ?hi32 (by kernel_rfl) (by kernel_rfl) (by kernel_rfl) (by kernel_rfl) (by kernel_rfl) ?hq32 (Or.inl ⟨?hw32, ?hy32⟩) hS ?rest32
    case hi32 => simp only [List.getElem?_toArray, List.getElem?_cons_succ, List.getElem?_cons_zero]; rfl
    case hq32 => exact fun _ _ _ h => h
    case hw32 => rfl
    case hy32 => intro w hSw; (try dsimp only at hSw); go_simp; (try with_reducible rfl)
    try simp only [Act.put, List.setIfInBounds_toArray, List.set_cons_zero, List.set_cons_succ]
    refine wpAnyL_take (i := 14) (oi := ?oi33) (v := ?v33) ?hi33 (by kernel_rfl) (by kernel_rfl) (by kernel_rfl) (by kernel_rfl) (by kernel_rfl) ?hq33 (Or.inl ⟨?hw33, ?hy33⟩) hS ?rest33
    case hi33 => simp only [List.getElem?_toArray, List.getElem?_cons_succ, List.getElem?_cons_zero]; rfl
    case hq33 => exact fun _ _ _ h => h
    case hw33 => rfl
    case hy33 => intro w hSw; (try dsimp only at hSw); go_simp; (try with_reducible rfl)
    try simp only [Act.put, List.setIfInBounds_toArray, List.set_cons_zero, List.set_cons_succ]
    refine wpAnyL_take (i := 15) (oi := ?oi34) (v := ?v34) ?hi34 (by kernel_rfl) (by kernel_rfl) (by kernel_rfl) (by kernel_rfl) (by kernel_rfl) ?hq34 (Or.inl ⟨?hw34, ?hy34⟩) hS ?rest34
    case hi34 => simp only [List.getElem?_toArray, List.getElem?_cons_succ, List.getElem?_cons_zero]; rfl
    case hq34 => exact fun _ _ _ h => h
    case hw34 => rfl
    case hy34 => intro w hSw; (try dsimp only at hSw); go_simp; (try with_reducible rfl)
    try simp only [Act.put, List.setIfInBounds_toArray, List.set_cons_zero, List.set_cons_succ]
    refine wpAnyL_ready (rs := [1]) (by kernel_rfl) (by simp) ?_
    refine AllReadyL.cons (o := ?o35) ?ho35 (fun K hK => ?_) AllReadyL.nil
    case ho35 => simp only [List.getElem?_toArray, List.getElem?_cons_succ, List.getElem?_cons_zero]; rfl
    go_simp
    refine hK.out _ _ (fun _ => HK1.out _ ((Below.refl _ _).drew.alloc (Nat.le_refl _) _)) (fun hS => ?_)
    replace hS := hS (by decide)
    clear hK K
    try simp only [Act.put, List.setIfInBounds_toArray, List.set_cons_zero, List.set_cons_succ]
    refine wpAnyL_ready (rs := [8]) (by kernel_rfl) (by simp) ?_
    refine AllReadyL.cons (o := ?o36) ?ho36 (fun K hK => ?_) AllReadyL.nil
    case ho36 => simp only [List.getElem?_toArray, List.getElem?_cons_succ, List.getElem?_cons_zero]; rfl
    refine step_append_rows (by rfl) (.tmp 28) (.tmp 34) 80 (by rfl) w1.heap.size 51 _ _ 1 24 Tryz.underlying80 HI1.out.1 HI1.out.2.1 HI1.out.2.2.1 HI1.out.2.2.2 rfl (by omega) _ 0 [] (by rfl) (own_new (MapKept.heap_alloc w1.drew _).1 (Nat.le_refl _)) _ k _ (vs.take k) (by rfl) (HS1.out _ ((Below.refl _ _).drew.alloc (Nat.le_refl _) _)).1 HO1.out.1 (by unfold maxLen; omega) (by omega) (by simp) ?_
    intro A1 c1 u1 hown1 hb1
    have hB1 : Below w1.heap.size w1 u1 := ((Below.refl _ _).drew.alloc (Nat.le_refl _) _).trans hb1
    refine hK.out _ _ (fun _ => HK1.out _ hB1) (fun hS => ?_)
    replace hS := hS (by decide)
    clear hK K
    try simp only [Act.put, List.setIfInBounds_toArray, List.set_cons_zero, List.set_cons_succ]
    refine wpAnyL_ready (rs := [16]) (by kernel_rfl) (by simp) ?_
    refine AllReadyL.cons (o := ?o37) ?ho37 (fun K hK => ?_) AllReadyL.nil
    case ho37 => simp only [List.getElem?_toArray, List.getElem?_cons_succ, List.getElem?_cons_zero]; rfl
    refine step_append_rows (by rfl) (.tmp 35) (.tmp 42) 80 (by rfl) w1.heap.size 51 _ _ 1 24 Tryz.underlying80 HI1.out.1 HI1.out.2.1 HI1.out.2.2.1 HI1.out.2.2.2 rfl (by omega) _ _ _ (by rfl) hown1 _ (n - (k + 1)) _ (vs.drop (k + 1)) (by rfl) (HS1.out _ hB1).2 HO1.out.2 (by unfold maxLen; omega) (by omega) hB1.size ?_
    intro A2 c2 u2 hown2 hb2
    have hB2 : Below w1.heap.size w1 u2 := hB1.trans hb2
    refine hK.out _ _ (fun _ => HK1.out _ hB2) (fun hS => ?_)
    replace hS := hS (by decide)
    clear hK K
    try simp only [Act.put, List.setIfInBounds_toArray, List.set_cons_zero, List.set_cons_succ]
    refine wpAnyL_take (i := 17) (oi := ?oi38) (v := ?v38) ?hi38 (by kernel_rfl) (by kernel_rfl) (by kernel_rfl) (by kernel_rfl) (by kernel_rfl) ?hq38 (Or.inl ⟨?hw38, ?hy38⟩) hS ?rest38
    case hi38 => simp only [List.getElem?_toArray, List.getElem?_cons_succ, List.getElem?_cons_zero]; rfl
    case hq38 => exact fun _ _ _ h => h
    case hw38 => rfl
    case hy38 => intro w hSw; (try dsimp only at hSw); go_simp; (try with_reducible rfl)
    try simp only [Act.put, List.setIfInBounds_toArray, List.set_cons_zero, List.set_cons_succ]
    refine wpAnyL_take (i := 18) (oi := ?oi39) (v := ?v39) ?hi39 (by kernel_rfl) (by kernel_rfl) (by kernel_rfl) (by kernel_rfl) (by kernel_rfl) ?hq39 (Or.inl ⟨?hw39, ?hy39⟩) hS ?rest39
    case hi39 => simp only [List.getElem?_toArray, List.getElem?_cons_succ, List.getElem?_cons_zero]; rfl
    case hq39 => exact fun _ _ _ h => h
    case hw39 => rfl
    case hy39 => intro w hSw; (try dsimp only at hSw); go_simp; (try with_reducible rfl)
    try simp only [Act.put, List.setIfInBounds_toArray, List.set_cons_zero, List.set_cons_succ]
    refine wpAnyL_ready (rs := [19]) (by kernel_rfl) (by simp) ?_
    refine AllReadyL.cons (o := ?o40) ?ho40 (fun K hK => ?_) AllReadyL.nil
    case ho40 => simp only [List.getElem?_toArray, List.getElem?_cons_succ, List.getElem?_cons_zero]; rfl
    go_simp
    refine hK.out _ _ (fun h => absurd rfl h) (fun hS => ?_)
    clear hS hK K
    try simp only [Act.put, List.setIfInBounds_toArray, List.set_cons_zero, List.set_cons_succ]
    refine wpAnyL_done (by kernel_rfl) ?_ _
    refine NoPanic.normal ?_
    go_wp2
    all_goals (
      go_end0
      have hl := HLD.out
      have e5 : 0 + k + (n - (k + 1)) = (D.take k ++ D.drop (k + 1)).length := by omega
      obtain ⟨-, hcc, -, hrow2⟩ := own_row (w := w) hown2 (by unfold maxLen; omega) hs1
      rw [List.nil_append, Nat.mul_one, e5] at hrow2
      rw [e5] at hcc
      have := RefP.both_turn HH.out HP1.out HM.out hB2 hcc hrow2 (HE.out.move (by have := hB2.size; omega) fun b hb hbw => ⟨⟨.inl hb.1, hb.2⟩, (hB2.block b (by omega)).trans (HKW.out.block b hbw hb.2)⟩) (.tuple #[])
      rw [hl] at this
      exact this)
end
end Go.Proofs.YtbapdoicejakhaaGreat
