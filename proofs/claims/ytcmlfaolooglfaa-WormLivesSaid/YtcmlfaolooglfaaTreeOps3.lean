/- tree: Seal, Keep, Part, Read, Append. -/
import Derived.Test.YtcmlfaolooglfaaTreeOps2
namespace Go.Proofs.Ytcmlfaolooglfaa
open Go.ChangeShapes Go.WideShapes Go.ChangeAt Go.RowKit
set_option linter.unusedVariables false
set_option linter.unusedSimpArgs false

section
variable {g : Nat → Own} {D : Nat → Prop} {p mb : Nat} {ib nb : Int → Nat} {T : TrM}
theorem Turn.of {w w' : World} {ib' nb' : Int → Nat} {T' : TrM} {v : Value} {e : Ending} (he : e = .returned v) (h : TreeAt g D w' p mb ib' nb' T') (hK : Keeps (fun b => g b ≠ .none) w w') : Turn g D w p mb T' v e w' :=
  ⟨he, g, D, ib', nb', h, fun b h => .inl h, fun b h => .inl h, hK⟩
theorem fileE_some {id : Int} {x : ItM} (hx : aget id T = some x) (hk : x.kind ≠ 2) : fileE T id = 0 := by unfold fileE; rw [hx]; exact if_neg hk
theorem fileE_ne {id : Int} : fileE T id = 0 ∨ fileE T id = 20 ∨ fileE T id = 22 := by
  unfold fileE
  split
  · simp
  · split <;> simp
theorem fileE_zero {id : Int} (h : fileE T id = 0) : ∃ x, aget id T = some x ∧ x.kind ≠ 2 := by
  unfold fileE at h
  cases hx : aget id T with
  | none => rw [hx] at h; cases h
  | some x =>
    rw [hx] at h
    by_cases hk : x.kind = 2
    · simp only [if_pos hk] at h; cases h
    · exact ⟨x, rfl, hk⟩
theorem sealE_err {id til : Int} (h : fileE T id ≠ 0) : sealE T id til = fileE T id := by
  unfold fileE at h ⊢
  unfold sealE
  cases hx : aget id T with
  | none => rfl
  | some x =>
    rw [hx] at h
    by_cases hk : x.kind = 2
    · simp only [if_pos hk]
    · simp only [if_neg hk] at h; exact absurd rfl h
theorem keepE_err {id til : Int} (h : fileE T id ≠ 0) : keepE T id til = fileE T id := by
  unfold fileE at h ⊢
  unfold keepE
  cases hx : aget id T with
  | none => rfl
  | some x =>
    rw [hx] at h
    by_cases hk : x.kind = 2
    · simp only [if_pos hk]
    · simp only [if_neg hk] at h; exact absurd rfl h
theorem appendE_err {id : Int} {b : List UInt8} (h : fileE T id ≠ 0) : appendE T id b = fileE T id := by
  unfold fileE at h ⊢
  unfold appendE
  cases hx : aget id T with
  | none => rfl
  | some x =>
    rw [hx] at h
    by_cases hk : x.kind = 2
    · simp only [if_pos hk]
    · simp only [if_neg hk] at h; exact absurd rfl h
theorem dropE_err {id : Int} (h : fileE T id ≠ 0) : dropE T id = fileE T id := by
  unfold fileE at h ⊢
  unfold dropE
  cases hx : aget id T with
  | none => rfl
  | some x =>
    rw [hx] at h
    by_cases hk : x.kind = 2
    · simp only [if_pos hk]
    · simp only [if_neg hk] at h; exact absurd rfl h
theorem readE_err {id at_ n : Int} (h : fileE T id ≠ 0) : readE T id at_ n = fileE T id ∧ readB T id at_ n = [] := by
  unfold fileE at h ⊢
  unfold readE readB
  cases hx : aget id T with
  | none => exact ⟨rfl, rfl⟩
  | some x =>
    rw [hx] at h
    by_cases hk : x.kind = 2
    · simp only [if_pos hk, and_self]
    · simp only [if_neg hk] at h; exact absurd rfl h

set_option maxHeartbeats 4000000 in
theorem seal_at (id til : Int) (w : World) (h : TreeAt g D w p mb ib nb T) (hid : (Lit.int .i64 id).wf = true) (ht0 : 0 ≤ til) (ht1 : til ≤ 18446744073709551615) :
    Calls Try.prog 12 #[ptr p, .int .i64 id, .int .u64 til] w (Turn g D w p mb (sealM T id til).2 (.int .i64 (sealM T id til).1)) := by
  have HH := Lib.hid h
  by_cases hf : fileE T id = 0
  · obtain ⟨x, hx, hk⟩ := fileE_zero hf
    have HF := Lib.hid (file_ok id hx hk w h hid)
    obtain ⟨c0, c1, c2, c3, c4, c5, c7, hiw⟩ := (h.item id x hx).cell
    have HX := Lib.hid hx
    have hE : sealE T id til = if x.closed then 27 else if 1099511627776 < til then 1 else 0 := by unfold sealE; rw [hx]; simp only [if_neg hk]
    have HE := Lib.hid hE
    cases hcl : x.closed with
    | true =>
      have HM : Hid (sealM T id til = (27, T)) := by
        unfold sealM
        rw [HE.out, hcl]; simp only [if_pos]; exact rfl
      rw [hcl] at c5
      clear hE hcl hx hk hf h c7
      go_enter Try.func12, Try.ntmps12
      go_wp2_with fail
      (with_reducible refine HF.out.mono ?_)
      rintro e w1 ⟨rfl, rfl⟩
      go_wp2_with fail
      go_ret
      rw [HM.out]
      exact Turn.same HH.out (Below.refl _ _) rfl
    | false =>
      rw [hcl] at c5
      by_cases htl : 1099511627776 < til
      · have HM : Hid (sealM T id til = (1, T)) := by
          unfold sealM
          rw [HE.out, hcl]; simp only [Bool.false_eq_true, if_false, if_pos htl]; exact rfl
        clear hE hcl hx hk hf h c7
        go_enter Try.func12, Try.ntmps12
        go_wp2_with fail
        (with_reducible refine HF.out.mono ?_)
        rintro e w1 ⟨rfl, rfl⟩
        go_wp2_with fail
        go_ret
        rw [HM.out]
        exact Turn.same HH.out (Below.refl _ _) rfl
      · have HM : Hid (sealM T id til = (0, settleM (amod id (fun x => { x with closed := true, til := til }) T) id)) := by
          unfold sealM
          rw [HE.out, hcl]; simp only [Bool.false_eq_true, if_false, if_neg htl]; exact rfl
        have hfz4 := (h.item id x hx).frozen 4
        have hfz5 := (h.item id x hx).frozen 5
        have hA1 : TreeAt g D ((w.setCell ⟨ib id, 5, none⟩ (.bool true)).setCell ⟨ib id, 4, none⟩ (.int .u64 til)) p mb ib nb (amod id (fun x => { x with closed := true, til := til }) T) := by
          refine h.fields hx (fun x => { x with closed := true, til := til }) rfl rfl rfl (Keeps.set2 w _ _ _ _ _) (by rw [size_set, size_set]) fun a c hc => ?_
          rw [heap_set_same (heap_set_same hc)]
          rfl
        have hx1 : aget id (amod id (fun x => { x with closed := true, til := til }) T) = some { x with closed := true, til := til } := by rw [aget_amod, if_pos rfl, hx]; rfl
        have HS := Lib.hid (settle_any id hx1 hid _ hA1)
        have hgi := h.tagi id x hx
        have hgm := h.tagm
        have HGI : Hid (∀ b, (b = ib id ∨ b = mb) → g b ≠ .none) := fun b hb => by
          rcases hb with rfl | rfl
          · rw [hgi]; simp
          · rw [hgm]; simp
        clear hE hcl hx hk hf h c7 hA1 hx1 hgi hgm
        go_enter Try.func12, Try.ntmps12
        go_wp2_with fail
        (with_reducible refine HF.out.mono ?_)
        rintro e w1 ⟨rfl, rfl⟩
        go_wp2_with fail
        (with_reducible refine HS.out.mono ?_)
        rintro e w1 ⟨rfl, hA2, hK2, hs2⟩
        have HA2 := Lib.hid hA2
        have HK2 := Lib.hid hK2
        clear hA2 hK2
        go_wp2_with fail
        go_ret
        rw [HM.out]
        exact Turn.of rfl HA2.out (((Keeps.set2 w (ib id) 5 4 _ _).mono fun b _ hb => HGI.out b (.inl hb)).trans (HK2.out.mono fun b _ hb => HGI.out b (.inr hb)) (fun _ _ h => h))
  · have hne : (fileE T id == 0) = false := by simpa using hf
    have HF := Lib.hid (file_err id _ rfl hf w h hid)
    have HM : Hid (sealM T id til = (fileE T id, T)) := by
      unfold sealM
      rw [sealE_err hf, if_neg hf]; exact rfl
    obtain ⟨k, hk⟩ : ∃ k, k = fileE T id := ⟨_, rfl⟩
    rw [← hk] at HF hne HM
    clear hf h hk
    go_enter Try.func12, Try.ntmps12
    go_wp2_with fail
    (with_reducible refine HF.out.mono ?_)
    rintro e w1 ⟨rfl, rfl⟩
    go_wp2_with fail
    go_ret
    rw [HM.out]
    exact Turn.same HH.out (Below.refl _ _) rfl

end
end Go.Proofs.Ytcmlfaolooglfaa
