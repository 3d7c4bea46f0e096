/- The reference: cut. -/
import Derived.Test.YtbapdoicejakhaaGreatM29
import Derived.BigRegion
import Derived.Deep.RegionHeld3
namespace Go.Proofs.YtbapdoicejakhaaGreat
open Go.ChangeShapes Go.WideShapes Go.ChangeAt Go.RowKit
set_option linter.unusedVariables false
set_option linter.unusedSimpArgs false

/-- The entries are turned, and nothing else that was there. -/
def EntSet (w : World) (r : Nat) (E : List Ent) (e : Ending) (w' : World) : Prop :=
  e = .returned (.tuple #[]) ∧ ∃ a c w1, Below w.heap.size w w1 ∧ w' = w1.setCell ⟨r, 2, none⟩ (.slice a E.length c) ∧ E.length ≤ c ∧ Base a c ∧ RowAt (fun x => w.heap.size ≤ x ∧ x < w1.heap.size) w1 a (E.length * 3) (E.flatMap entC)
theorem ent_turn {F : Nat → Prop} {w w' : World} {r : Nat} {T : TrM} {D : List (List UInt8)} {E E' : List Ent} {e : Ending} (h : RefP F w r T D E) (hs : EntSet w r E' e w') : RTurnP F w r T D E' (.tuple #[]) e w' := by
  obtain ⟨rfl, a, c, w1, hb, rfl, hc, hz, hrow⟩ := hs
  obtain ⟨aN, cN, aD, cD, aE, cE, h1, h2, h3, h4, h8, h9, h10, h11⟩ := h.head
  have hr := h.low r h.own
  have hK : Keeps (fun x => x = r) w (w1.setCell ⟨r, 2, none⟩ (.slice a E'.length c)) := (Keeps.mono (Keeps.below hb) (fun x hx hf => by omega)).trans (Keeps.set_ _ _ _) fun x _ hx => hx
  refine ⟨rfl, hK, h.turn (aD := aD) hK ?_ h2 h3 hc (row_old hK h8) ?_ (row_new hr ?_) hz⟩
  · rw [heap_set_same ((hb.block r hr).trans h1)]
    rfl
  · exact h9.move hK.size fun b hb2 hbw => ⟨⟨.inl hb2.1, hb2.2⟩, hK.block b hbw hb2.2⟩
  · refine (hrow.apart ⟨r, 2, none⟩ _ fun b hb2 => ?_).mono fun b hb2 => ⟨hb2.1, by rw [size_set]; exact hb2.2⟩
    show b ≠ r
    have := hb2.1
    omega
section
variable {F : Nat → Prop} {r : Nat} {T : TrM} {D : List (List UInt8)} {E : List Ent}
set_option maxHeartbeats 2000000 in
theorem rcut_any (k : Nat) (w : World) (E : List Ent) (b off n cE : Nat) (hc2 : w.cell? ⟨r, 2, none⟩ = some (.slice (some ⟨b, off, none⟩) n cE)) (hrw : r < w.heap.size) (hfr : w.frozen? ⟨r, 2, none⟩ = false) (hn : E.length = n) (hcap : n ≤ cE) (hn6 : n ≤ 1000000) (hrow : RowAt F w (some ⟨b, off, none⟩) (n * 3) (E.flatMap entC)) (hk : k < n) :
    Calls Tryz.prog 68 #[ptr r, .int .i64 k] w (EntSet w r (E.take k ++ E.drop (k + 1))) := by
  obtain ⟨i, hi, hz, h3, h32⟩ := info_parts entInfo
  have HI := Lib.hid (And.intro hi (And.intro hz (And.intro h3 h32)))
  have HSRC : Hid (∀ w1, Below w.heap.size w w1 → RowAt F w1 (some ⟨b, off, none⟩) (k * 3) ((E.take k).flatMap entC) ∧ RowAt F w1 (if cE = k + 1 then some ⟨b, off, none⟩ else some ⟨b, off + (k + 1) * 3, none⟩) ((n - (k + 1)) * 3) ((E.drop (k + 1)).flatMap entC)) := fun w1 hb => by
    have h1 := hrow.below hb (Nat.le_refl _)
    have h2 := h1.take (k * 3)
    rw [flatM_take entC 3 entC_len, Nat.min_eq_right (by omega)] at h2
    have h4 := h1.drop ((k + 1) * 3)
    rw [flatM_drop entC 3 entC_len, ← Nat.sub_mul] at h4
    refine ⟨h2, ?_⟩
    by_cases hce : cE = k + 1
    · rw [if_pos hce]
      exact RowAt.zero _ _ _ (by rw [show n - (k + 1) = 0 by omega, Nat.zero_mul]) (by rw [List.drop_of_length_le (by omega)]; rfl)
    · rw [if_neg hce]; exact h4
  have i0 : (0 : Int) ≤ k := by omega
  have i1 : (k : Int) ≤ cE := by omega
  have i2 : (k : Int) + 1 ≤ n := by omega
  have i3 : (0 : Int) ≤ (k : Int) + 1 := by omega
  have i4 : (n : Int) ≤ cE := by omega
  have e1 : IntKind.i64.wrap ((k : Int) + 1) = (k : Int) + 1 := IntWalk.i64_in _ (by omega)
  have hlt : (E.take k ++ E.drop (k + 1)).length = k + (n - (k + 1)) := by simp; omega
  have HLT := Lib.hid hlt
  have HKP : Hid (∀ w1, Below w.heap.size w w1 → w1.cell? ⟨r, 2, none⟩ = some (.slice (some ⟨b, off, none⟩) n cE) ∧ w1.frozen? ⟨r, 2, none⟩ = false) := fun w1 hb => ⟨by rw [hb.cell (p := ⟨r, 2, none⟩) hrw]; exact hc2, by rw [hb.frozen (p := ⟨r, 2, none⟩) hrw]; exact hfr⟩
  clear hi hz h3 h32 hrow hlt
  go_enter Tryz.func68, Tryz.ntmps68
  go_wp2
  refine wp_region_noPanic ?_
  refine wp_region_L (last := 19) (S := (fun w' => w'.cell? ⟨r, 2, none⟩ = some (.slice (some ⟨b, off, none⟩) n cE) ∧ w'.frozen? ⟨r, 2, none⟩ = false)) (by kernel_rfl) ?_ (fun hS => ?_)
  · exact HKP.out _ (Below.refl _ _).drew
  refine wpAnyL_take (i := 0) (oi := ?oi1) (v := ?v1) ?hi1 (by kernel_rfl) (by kernel_rfl) (by kernel_rfl) (by kernel_rfl) (by kernel_rfl) ?hq1 (Or.inl ⟨?hw1, ?hy1⟩) hS ?rest1
  case hi1 => simp only [List.getElem?_toArray, List.getElem?_cons_succ, List.getElem?_cons_zero]; rfl
  case hq1 => exact fun _ _ _ h => h
  case hw1 => rfl
  case hy1 => intro w hSw; (try dsimp only at hSw); go_simp; (try with_reducible rfl)
  try simp only [Act.put, List.setIfInBounds_toArray, List.set_cons_zero, List.set_cons_succ]
  refine wpAnyL_take (i := 2) (oi := ?oi2) (v := ?v2) ?hi2 (by kernel_rfl) (by kernel_rfl) (by kernel_rfl) (by kernel_rfl) (by kernel_rfl) ?hq2 (Or.inl ⟨?hw2, ?hy2⟩) hS ?rest2
  case hi2 => simp only [List.getElem?_toArray, List.getElem?_cons_succ, List.getElem?_cons_zero]; rfl
  case hq2 => exact fun _ _ _ h => h
  case hw2 => rfl
  case hy2 => intro w hSw; (try dsimp only at hSw); go_simp; (try with_reducible rfl)
  try simp only [Act.put, List.setIfInBounds_toArray, List.set_cons_zero, List.set_cons_succ]
  refine wpAnyL_take (i := 3) (oi := ?oi3) (v := ?v3) ?hi3 (by kernel_rfl) (by kernel_rfl) (by kernel_rfl) (by kernel_rfl) (by kernel_rfl) ?hq3 (Or.inl ⟨?hw3, ?hy3⟩) hS ?rest3
  case hi3 => simp only [List.getElem?_toArray, List.getElem?_cons_succ, List.getElem?_cons_zero]; rfl
  case hq3 => exact fun _ _ _ h => h
  case hw3 => rfl
  case hy3 => intro w hSw; (try dsimp only at hSw); go_simp; (try with_reducible rfl)
  try simp only [Act.put, List.setIfInBounds_toArray, List.set_cons_zero, List.set_cons_succ]
  refine wpAnyL_take (i := 4) (oi := ?oi4) (v := ?v4) ?hi4 (by kernel_rfl) (by kernel_rfl) (by kernel_rfl) (by kernel_rfl) (by kernel_rfl) ?hq4 (Or.inl ⟨?hw4, ?hy4⟩) hS ?rest4
  case hi4 => simp only [List.getElem?_toArray, List.getElem?_cons_succ, List.getElem?_cons_zero]; rfl
  case hq4 => exact fun _ _ _ h => h
  case hw4 => rfl
  case hy4 => intro w hSw; (try dsimp only at hSw); go_simp; (try with_reducible rfl)
  try simp only [Act.put, List.setIfInBounds_toArray, List.set_cons_zero, List.set_cons_succ]
  refine wpAnyL_take (i := 5) (oi := ?oi5) (v := ?v5) ?hi5 (by kernel_rfl) (by kernel_rfl) (by kernel_rfl) (by kernel_rfl) (by kernel_rfl) ?hq5 (Or.inl ⟨?hw5, ?hy5⟩) hS ?rest5
  case hi5 => simp only [List.getElem?_toArray, List.getElem?_cons_succ, List.getElem?_cons_zero]; rfl
  case hq5 => exact fun _ _ _ h => h
  case hw5 => rfl
  case hy5 => intro w hSw; (try dsimp only at hSw); go_simp; (try with_reducible rfl)
  try simp only [Act.put, List.setIfInBounds_toArray, List.set_cons_zero, List.set_cons_succ]
  refine wpAnyL_take (i := 6) (oi := ?oi6) (v := ?v6) ?hi6 (by kernel_rfl) (by kernel_rfl) (by kernel_rfl) (by kernel_rfl) (by kernel_rfl) ?hq6 (Or.inl ⟨?hw6, ?hy6⟩) hS ?rest6
  case hi6 => simp only [List.getElem?_toArray, List.getElem?_cons_succ, List.getElem?_cons_zero]; rfl
  case hq6 => exact fun _ _ _ h => h
  case hw6 => rfl
  case hy6 => intro w hSw; (try dsimp only at hSw); go_simp; (try with_reducible rfl)
  try simp only [Act.put, List.setIfInBounds_toArray, List.set_cons_zero, List.set_cons_succ]
  refine wpAnyL_take (i := 7) (oi := ?oi7) (v := ?v7) ?hi7 (by kernel_rfl) (by kernel_rfl) (by kernel_rfl) (by kernel_rfl) (by kernel_rfl) ?hq7 (Or.inl ⟨?hw7, ?hy7⟩) hS ?rest7
  case hi7 => simp only [List.getElem?_toArray, List.getElem?_cons_succ, List.getElem?_cons_zero]; rfl
  case hq7 => exact fun _ _ _ h => h
  case hw7 => rfl
  case hy7 => intro w hSw; (try dsimp only at hSw); go_simp; (try with_reducible rfl)
  try simp only [Act.put, List.setIfInBounds_toArray, List.set_cons_zero, List.set_cons_succ]
  refine wpAnyL_take (i := 9) (oi := ?oi8) (v := ?v8) ?hi8 (by kernel_rfl) (by kernel_rfl) (by kernel_rfl) (by kernel_rfl) (by kernel_rfl) ?hq8 (Or.inl ⟨?hw8, ?hy8⟩) hS ?rest8
  case hi8 => simp only [List.getElem?_toArray, List.getElem?_cons_succ, List.getElem?_cons_zero]; rfl
  case hq8 => exact fun _ _ _ h => h
  case hw8 => rfl
  case hy8 => intro w hSw; (try dsimp only at hSw); go_simp; (try with_reducible rfl)
  try simp only [Act.put, List.setIfInBounds_toArray, List.set_cons_zero, List.set_cons_succ]
  refine wpAnyL_take (i := 10) (oi := ?oi9) (v := ?v9) ?hi9 (by kernel_rfl) (by kernel_rfl) (by kernel_rfl) (by kernel_rfl) (by kernel_rfl) ?hq9 (Or.inl ⟨?hw9, ?hy9⟩) hS ?rest9
  case hi9 => simp only [List.getElem?_toArray, List.getElem?_cons_succ, List.getElem?_cons_zero]; rfl
  case hq9 => exact fun _ _ _ h => h
  case hw9 => rfl
  case hy9 => intro w hSw; (try dsimp only at hSw); go_simp; (try with_reducible rfl)
  try simp only [Act.put, List.setIfInBounds_toArray, List.set_cons_zero, List.set_cons_succ]
  refine wpAnyL_take (i := 11) (oi := ?oi10) (v := ?v10) ?hi10 (by kernel_rfl) (by kernel_rfl) (by kernel_rfl) (by kernel_rfl) (by kernel_rfl) ?hq10 (Or.inl ⟨?hw10, ?hy10⟩) hS ?rest10
  case hi10 => simp only [List.getElem?_toArray, List.getElem?_cons_succ, List.getElem?_cons_zero]; rfl
  case hq10 => exact fun _ _ _ h => h
  case hw10 => rfl
  case hy10 => intro w hSw; (try dsimp only at hSw); go_simp; (try with_reducible rfl)
  try simp only [Act.put, List.setIfInBounds_toArray, List.set_cons_zero, List.set_cons_succ]
  refine wpAnyL_take (i := 12) (oi := ?oi11) (v := ?v11) ?hi11 (by kernel_rfl) (by kernel_rfl) (by kernel_rfl) (by kernel_rfl) (by kernel_rfl) ?hq11 (Or.inl ⟨?hw11, ?hy11⟩) hS ?rest11
  case hi11 => simp only [List.getElem?_toArray, List.getElem?_cons_succ, List.getElem?_cons_zero]; rfl
  case hq11 => exact fun _ _ _ h => h
  case hw11 => rfl
  case hy11 => intro w hSw; (try dsimp only at hSw); go_simp; (try with_reducible rfl)
  try simp only [Act.put, List.setIfInBounds_toArray, List.set_cons_zero, List.set_cons_succ]
  refine wpAnyL_take (i := 13) (oi := ?oi12) (v := ?v12) ?hi12 (by kernel_rfl) (by kernel_rfl) (by kernel_rfl) (by kernel_rfl) (by kernel_rfl) ?hq12 (Or.inl ⟨?hw12, ?hy12⟩) hS ?rest12
  case hi12 => simp only [List.getElem?_toArray, List.getElem?_cons_succ, List.getElem?_cons_zero]; rfl
  case hq12 => exact fun _ _ _ h => h
  case hw12 => rfl
  case hy12 => intro w hSw; (try dsimp only at hSw); go_simp; (try with_reducible rfl)
  try simp only [Act.put, List.setIfInBounds_toArray, List.set_cons_zero, List.set_cons_succ]
  refine wpAnyL_take (i := 14) (oi := ?oi13) (v := ?v13) ?hi13 (by kernel_rfl) (by kernel_rfl) (by kernel_rfl) (by kernel_rfl) (by kernel_rfl) ?hq13 (Or.inl ⟨?hw13, ?hy13⟩) hS ?rest13
  case hi13 => simp only [List.getElem?_toArray, List.getElem?_cons_succ, List.getElem?_cons_zero]; rfl
  case hq13 => exact fun _ _ _ h => h
  case hw13 => rfl
  case hy13 => intro w hSw; (try dsimp only at hSw); go_simp; (try with_reducible rfl)
  try simp only [Act.put, List.setIfInBounds_toArray, List.set_cons_zero, List.set_cons_succ]
  refine wpAnyL_take (i := 15) (oi := ?oi14) (v := ?v14) ?hi14 (by kernel_rfl) (by kernel_rfl) (by kernel_rfl) (by kernel_rfl) (by kernel_rfl) ?hq14 (Or.inl ⟨?hw14, ?hy14⟩) hS ?rest14
  case hi14 => simp only [List.getElem?_toArray, List.getElem?_cons_succ, List.getElem?_cons_zero]; rfl
  case hq14 => exact fun _ _ _ h => h
  case hw14 => rfl
  case hy14 => intro w hSw; (try dsimp only at hSw); go_simp; (try with_reducible rfl)
  try simp only [Act.put, List.setIfInBounds_toArray, List.set_cons_zero, List.set_cons_succ]
  refine wpAnyL_ready (rs := [1]) (by kernel_rfl) (by simp) ?_
  refine AllReadyL.cons (o := ?o15) ?ho15 (fun K hK => ?_) AllReadyL.nil
  case ho15 => simp only [List.getElem?_toArray, List.getElem?_cons_succ, List.getElem?_cons_zero]; rfl
  go_simp
  refine hK.out _ _ (fun _ => HKP.out _ ((Below.refl _ _).drew.alloc (Nat.le_refl _) _)) (fun hS => ?_)
  replace hS := hS (by decide)
  clear hK K
  try simp only [Act.put, List.setIfInBounds_toArray, List.set_cons_zero, List.set_cons_succ]
  refine wpAnyL_ready (rs := [8]) (by kernel_rfl) (by simp) ?_
  refine AllReadyL.cons (o := ?o16) ?ho16 (fun K hK => ?_) AllReadyL.nil
  case ho16 => simp only [List.getElem?_toArray, List.getElem?_cons_succ, List.getElem?_cons_zero]; rfl
  refine step_append_rows (by rfl) (.tmp 5) (.tmp 11) 98 (by rfl) w.heap.size 119 i _ 3 32 Tryz.underlying98 HI.out.1 HI.out.2.1 HI.out.2.2.1 HI.out.2.2.2 rfl (by omega) _ 0 [] (by rfl) (own_new (MapKept.heap_alloc w.drew _).1 (Nat.le_refl _)) _ k _ ((E.take k).flatMap entC) (by rfl) (HSRC.out _ ((Below.refl _ _).drew.alloc (Nat.le_refl _) _)).1 (entC_one _) (by unfold maxLen; omega) (by omega) (by simp) ?_
  intro A1 c1 w1 hown1 hb1
  have hB1 : Below w.heap.size w w1 := ((Below.refl _ _).drew.alloc (Nat.le_refl _) _).trans hb1
  refine hK.out _ _ (fun _ => HKP.out _ hB1) (fun hS => ?_)
  replace hS := hS (by decide)
  clear hK K
  try simp only [Act.put, List.setIfInBounds_toArray, List.set_cons_zero, List.set_cons_succ]
  refine wpAnyL_ready (rs := [16]) (by kernel_rfl) (by simp) ?_
  refine AllReadyL.cons (o := ?o17) ?ho17 (fun K hK => ?_) AllReadyL.nil
  case ho17 => simp only [List.getElem?_toArray, List.getElem?_cons_succ, List.getElem?_cons_zero]; rfl
  refine step_append_rows (by rfl) (.tmp 12) (.tmp 19) 98 (by rfl) w.heap.size 119 i _ 3 32 Tryz.underlying98 HI.out.1 HI.out.2.1 HI.out.2.2.1 HI.out.2.2.2 rfl (by omega) _ _ _ (by rfl) hown1 _ (n - (k + 1)) _ ((E.drop (k + 1)).flatMap entC) (by rfl) (HSRC.out _ hB1).2 (entC_one _) (by unfold maxLen; omega) (by omega) hB1.size ?_
  intro A2 c2 w2 hown2 hb2
  have hB2 : Below w.heap.size w w2 := hB1.trans hb2
  refine hK.out _ _ (fun _ => HKP.out _ hB2) (fun hS => ?_)
  replace hS := hS (by decide)
  clear hK K
  try simp only [Act.put, List.setIfInBounds_toArray, List.set_cons_zero, List.set_cons_succ]
  refine wpAnyL_take (i := 17) (oi := ?oi18) (v := ?v18) ?hi18 (by kernel_rfl) (by kernel_rfl) (by kernel_rfl) (by kernel_rfl) (by kernel_rfl) ?hq18 (Or.inl ⟨?hw18, ?hy18⟩) hS ?rest18
  case hi18 => simp only [List.getElem?_toArray, List.getElem?_cons_succ, List.getElem?_cons_zero]; rfl
  case hq18 => exact fun _ _ _ h => h
  case hw18 => rfl
  case hy18 => intro w hSw; (try dsimp only at hSw); go_simp; (try with_reducible rfl)
  try simp only [Act.put, List.setIfInBounds_toArray, List.set_cons_zero, List.set_cons_succ]
  refine wpAnyL_take (i := 18) (oi := ?oi19) (v := ?v19) ?hi19 (by kernel_rfl) (by kernel_rfl) (by kernel_rfl) (by kernel_rfl) (by kernel_rfl) ?hq19 (Or.inl ⟨?hw19, ?hy19⟩) hS ?rest19
  case hi19 => simp only [List.getElem?_toArray, List.getElem?_cons_succ, List.getElem?_cons_zero]; rfl
  case hq19 => exact fun _ _ _ h => h
  case hw19 => rfl
  case hy19 => intro w hSw; (try dsimp only at hSw); go_simp; (try with_reducible rfl)
  try simp only [Act.put, List.setIfInBounds_toArray, List.set_cons_zero, List.set_cons_succ]
  refine wpAnyL_ready (rs := [19]) (by kernel_rfl) (by simp) ?_
  refine AllReadyL.cons (o := ?o20) ?ho20 (fun K hK => ?_) AllReadyL.nil
  case ho20 => simp only [List.getElem?_toArray, List.getElem?_cons_succ, List.getElem?_cons_zero]; rfl
  go_simp
  refine hK.out _ _ (fun h => absurd rfl h) (fun hS => ?_)
  clear hS hK K
  try simp only [Act.put, List.setIfInBounds_toArray, List.set_cons_zero, List.set_cons_succ]
  refine wpAnyL_done (by kernel_rfl) ?_ _
  refine NoPanic.normal ?_
  go_wp2
  all_goals (
    go_end0
    have hl := HLT.out
    have e5 : 0 + k + (n - (k + 1)) = (E.take k ++ E.drop (k + 1)).length := by omega
    obtain ⟨-, hcc, hnz, hrow2⟩ := RowAt.of_ownk hown2 (by unfold maxLen; omega)
    rw [List.nil_append, ← List.flatMap_append, e5] at hrow2
    rw [e5] at hcc
    refine ⟨rfl, A2, c2, w2, hB2, ?_, hcc, hnz, hrow2⟩
    rw [hl])
/-- An entry goes. -/
theorem rcut_at (k : Nat) (w : World) (h : RefP F w r T D E) (hk : k < E.length) (hn6 : E.length ≤ 1000000) :
    Calls Tryz.prog 68 #[ptr r, .int .i64 k] w (RTurnP F w r T D (E.take k ++ E.drop (k + 1)) (.tuple #[])) := by
  obtain ⟨aN, cN, aD, cD, aE, cE, h1, h2, h3, h4, h8, h9, h10, h11⟩ := h.head
  obtain ⟨b, off, rfl, hF, hb, hi, hc⟩ := h10.wide entC_len rfl (List.getElem?_eq_getElem hk) (by omega)
  exact (rcut_any k w E b off E.length cE (by simp [World.cell?, h1]) (h.low r h.own) (RowAt.frozen h1 rfl) rfl h4 hn6 h10 hk).mono fun e w' hs => ent_turn h hs
end
end Go.Proofs.YtbapdoicejakhaaGreat
