/- package state: write. -/
import Derived.Test.YtpgklnhkfgbpgaaGreatDoorM34
namespace Go.Proofs.YtpgklnhkfgbpgaaGreatDoor
open Go.ChangeShapes Go.WideShapes Go.ChangeAt Go.RowKit
set_option linter.unusedVariables false
set_option linter.unusedSimpArgs false

/-- The marks that a state's call may turn: l marks what is its own for a while. -/
structure Mk (i j k l : Nat) : Prop where
  ne : i ≠ 0 ∧ j ≠ 0 ∧ k ≠ 0 ∧ l ≠ 0 ∧ i ≠ j ∧ i ≠ k ∧ i ≠ l ∧ j ≠ k ∧ j ≠ l ∧ k ≠ l
theorem RowSet.step {o : Mark} {l : Nat} {w4 w5 : World} {g : Nat} {cs : Array Value} {t : TypeId} {W : World} (hM : Marks W o w4) (hs : RowSet w4 g cs t w5) (hg : o g = l) : Step o (fun m => m = l) w4 o w5 := by
  obtain ⟨_, h2, h3⟩ := hs
  refine ⟨fun _ _ => rfl, fun b hb hn => absurd (hM.new b hn).2 (by omega), h2.mono fun x _ (hx : x = g) => by rw [hx]; exact hg⟩
section
variable {W w : World} {o : Mark} {i j k l p : Nat} {M : StM}
theorem StateO.tree {o' : Mark} {w' : World} {t s : Nat} {v : Nat → Value} {T' : TrM} (hk : Mk i j k l) (h1 : w.heap[p]? = some (.cells (stC t s M.now v) 70 (0, 0))) (h2 : SnapsO o i w s M.s) (h4 : ∀ n, n < 8 → FdAt o w (v n) (M.fds n)) (hown : o p = k) (hlow : p < w.heap.size) (hs : Step o (fun m => m = j) w o' w') (hT : TreeO o' j w' t T') : StateO o' i j k w' p { M with t := T' } := by
  obtain ⟨n1, n2, n3, n4, n5, n6, n7, n8, n9, n10⟩ := hk.ne
  have h0 : ¬ (fun m => m = j) 0 := fun e => n2 e.symm
  exact ⟨⟨t, s, v, (hs.block hlow (by rw [hown]; exact fun e => n8 e.symm)).trans h1, h2.step h0 n5 hs, hT, fun n hn => (h4 n hn).step h0 hs⟩, (hs.old p hlow).trans hown, Nat.lt_of_lt_of_le hlow hs.keep.size⟩
/-- What a call of a state gives. -/
def StRet (o : Mark) (i j k l : Nat) (w : World) (p : Nat) (q : ReM × StM) (e : Ending) (w' : World) : Prop :=
  ∃ o', RepRet o' q.1 e w' ∧ Step o (fun m => m = i ∨ m = j ∨ m = k ∨ m = l) w o' w' ∧ StateO o' i j k w' p q.2
def swriteM (M : StM) (x : OpM) : ReM × StM := match getFd M x.fd true with
  | none => (noM 26, M)
  | some f => if 600 < x.data.length then (noM 3, M) else
    (if (appendM M.t f.id x.data).1 ≠ 0 then noM (appendM M.t f.id x.data).1 else ⟨0, x.data.length, [], [], none⟩, { M with t := (appendM M.t f.id x.data).2 })
set_option maxRecDepth 100000 in
set_option maxHeartbeats 8000000 in
theorem swrite_any {S : Nat → Prop} (hS : StateO o i j k w p M) (hM : Marks W o w) (hk : Mk i j k l) (hok : OkM M.t) (x : OpM) (hx : OpOk x) (hfi : ∀ n f, M.fds n = some f → (Lit.int .i64 f.id).wf = true) (da : Option Addr) (dc : Nat) (hda : RowAt S w da x.data.length (x.data.map bv)) :
    Calls Tryz.prog 41 #[ptr p, .agg (opC x da dc)] w (StRet o i j k l w p (swriteM M x)) := by
  have HKK := Lib.hid hk
  have HOK := Lib.hid hok
  have HX := Lib.hid hx
  have HM := Lib.hid hM
  have HS := Lib.hid hS
  have HFI := Lib.hid hfi
  have HDA := Lib.hid hda
  clear hS hM hk hok hx hfi hda
  unfold opC
  go_enter Tryz.func41, Tryz.ntmps41
  go_wp2_with fail
  obtain ⟨w2, hw2⟩ : ∃ w2, w2 = (w.alloc (.cells (opC x da dc) 36)).alloc (.cells (reC (noM 0) none none 0 0) 33) := ⟨_, rfl⟩
  have hb2 : Below w.heap.size w w2 := by rw [hw2]; exact (wall w _).trans ((wall _ _).mono (by simp))
  have hop : w2.heap[w.heap.size]? = some (.cells (opC x da dc) 36 (0, 0)) := by
    rw [hw2]
    exact ((wall _ _).block _ (by simp)).trans (MapKept.heap_alloc w _).1
  have hre : w2.heap[w.heap.size + 1]? = some (.cells (reC (noM 0) none none 0 0) 33 (0, 0)) := by
    rw [hw2]
    have := (MapKept.heap_alloc (w.alloc (.cells (opC x da dc) 36)) (.cells (reC (noM 0) none none 0 0) 33)).1
    rw [World.size_alloc] at this
    exact this
  obtain ⟨n1, n2, n3, n4, n5, n6, n7, n8, n9, n10⟩ := HKK.out.ne
  obtain ⟨o1, hs1, hl1, hl2⟩ := mark_new HM.out l (fun b => b = w.heap.size + 1) (w' := w2) (fun b hb => by subst hb; exact ⟨by omega, (Array.getElem?_eq_some_iff.1 hre).1⟩) hb2
  have hS1 : StateO o1 i j k w2 p M := HS.out.step (fun e => n4 e.symm) n7 n9 n10 hs1
  have hM1 : Marks W o1 w2 := HM.out.step (fun e => n4 e.symm) hs1
  have HC2 : Hid (Calls Tryz.prog 83 #[ptr p, .int .i64 x.fd, .bool true] ((w.alloc (.cells (opC x da dc) 36)).alloc (.cells (reC (noM 0) none none 0 0) 33)) fun e w'' => w'' = w2 ∧ FdRet o1 w2 M x.fd true e) := by rw [← hw2]; exact Lib.hid (fd_any hS1 x.fd true)
  unfold opC reC noM at HC2
  dsimp only [List.length_nil] at HC2
  have HOP := Lib.hid hop
  have HRE := Lib.hid hre
  have HB2 := Lib.hid hb2
  have HS1 := Lib.hid hS1
  have HM1 := Lib.hid hM1
  have HL1 := Lib.hid (hl1 _ rfl)
  have HL0 : Hid (o1 w.heap.size = 0) := Lib.hid ((hl2 w.heap.size (by omega)).trans (Decidable.byContradiction fun h9 => by have := (HM.out.new _ h9).2; omega))
  have HST1 := Lib.hid hs1
  clear hop hre hb2 hw2 hS1 hM1 hl1 hl2 hs1
  (with_reducible refine HC2.out.mono ?_)
  rintro e w3 ⟨rfl, hfd⟩
  clear HC2
  have HEND : Hid (∀ (z : ReM) (w4 w5 : World), Below w3.heap.size w3 w4 → RowSet w4 (w.heap.size + 1) (reC z none none 0 0) 33 w5 → z.data = [] → z.names = [] → StRet o i j k l w p (z, M) (.returned (.agg (reC z none none 0 0))) w5) := fun z w4 w5 hb hs hz1 hz2 => by
    have hM4 := HM1.out.step (I := fun _ => False) (fun e => e) (Step.grow HM1.out hb)
    have hst := hs.step hM4 HL1.out
    have hS4 := (HS1.out.grow HM1.out hb).step (fun e => n4 e.symm) n7 n9 n10 hst
    refine ⟨o1, ⟨_, rfl, none, none, 0, 0, rfl, by rw [hz1]; exact Nat.le_refl _, by rw [hz2]; exact Nat.le_refl _, by rw [hz1]; exact RowAt.nil _ _ _, by rw [hz2]; exact strs_nil _ _⟩, ((HST1.out.trans (Step.grow HM1.out hb)).trans hst).mono fun m hm => .inr (.inr (.inr hm)), hS4⟩
  rcases hfd with ⟨hg, rfl⟩ | ⟨f, fv, hg, rfl, hfv⟩
  · have hr : swriteM M x = (noM 26, M) := by unfold swriteM; rw [hg]
    have HRR := Lib.hid hr
    clear hg hr
    go_wp2_with fail
    (with_reducible refine (no_any _ _).mono ?_)
    rintro e w4 ⟨rfl, hb4⟩
    unfold noV
    have HB4 := Lib.hid hb4
    have HR4 := Lib.hid ((hb4.block _ (Array.getElem?_eq_some_iff.1 HRE.out).1).trans HRE.out)
    clear hb4
    go_wp2_with (refine wpList_store_rep (by rfl) 33 _ _ (by rfl) (w.heap.size + 1) (reC (noM 26) none none 0 0) (by rfl) (by rfl) _ HR4.out repSize rfl (reC_one _ _ _ _ _) ?_; intro w5 hs5; have HS5 := Lib.hid hs5; clear hs5)
    exact ret_rep rfl rfl rfl HS5.out.1 (by rw [HRR.out]; exact HEND.out _ _ _ HB4.out HS5.out rfl rfl)
  · by_cases h600 : 600 < x.data.length
    · have hr : swriteM M x = (noM 3, M) := by unfold swriteM; rw [hg]; simp only [if_pos h600]
      have HRR := Lib.hid hr
      have hd : decide ((600 : Int) < (x.data.length : Int)) = true := by simp; omega
      have c8 : w3.cell? ⟨w.heap.size, 8, none⟩ = some (.slice da x.data.length dc) := by simp [World.cell?, HOP.out, opC]
      clear hg hr hfv h600
      go_wp2_with fail
      (with_reducible refine (no_any _ _).mono ?_)
      rintro e w4 ⟨rfl, hb4⟩
      unfold noV
      have HB4 := Lib.hid hb4
      have HR4 := Lib.hid ((hb4.block _ (Array.getElem?_eq_some_iff.1 HRE.out).1).trans HRE.out)
      clear hb4
      go_wp2_with (refine wpList_store_rep (by rfl) 33 _ _ (by rfl) (w.heap.size + 1) (reC (noM 3) none none 0 0) (by rfl) (by rfl) _ HR4.out repSize rfl (reC_one _ _ _ _ _) ?_; intro w5 hs5; have HS5 := Lib.hid hs5; clear hs5)
      exact ret_rep rfl rfl rfl HS5.out.1 (by rw [HRR.out]; exact HEND.out _ _ _ HB4.out HS5.out rfl rfl)
    · have hd : decide ((600 : Int) < (x.data.length : Int)) = false := by simp; omega
      have hr : swriteM M x = (if (appendM M.t f.id x.data).1 ≠ 0 then noM (appendM M.t f.id x.data).1 else ⟨0, x.data.length, [], [], none⟩, { M with t := (appendM M.t f.id x.data).2 }) := by unfold swriteM; rw [hg]; simp only [if_neg h600]
      have HRR := Lib.hid hr
      have hfid : (Lit.int .i64 f.id).wf = true := by
        unfold getFd at hg
        split at hg
        · split at hg
          · split at hg
            · cases hg; exact HFI.out _ _ (by assumption)
            · cases hg
          · cases hg
        · cases hg
      obtain ⟨q, fa, fc, rfl, hq0, hq1, hq2, hq3, hq4⟩ := hfv
      obtain ⟨t, s, v, h1, h2, h3, h4⟩ := (HS1.out.grow HM1.out (Below.refl _ _).drew).at_
      have h1' : w3.heap[p]? = some (.cells (stC t s M.now v) 70 (0, 0)) := h1
      obtain ⟨z0, z1, z2, z3, z4⟩ := st_cells h1'
      have y1 : w3.cell? ⟨q, 1, none⟩ = some (.int .i64 f.id) := by simp [World.cell?, hq2]
      have c8 : w3.cell? ⟨w.heap.size, 8, none⟩ = some (.slice da x.data.length dc) := by simp [World.cell?, HOP.out, opC]
      have hqd : w3.drew.heap[q]? = some (.cells #[.bool f.wr, .int .i64 f.id, .slice fa f.b.length fc] 128 (0, 0)) := hq2
      have hod : w3.drew.heap[w.heap.size]? = some (.cells (opC x da dc) 36 (0, 0)) := HOP.out
      have hMd := HM1.out.step (I := fun _ => False) (fun e => e) (Step.grow HM1.out (Below.refl _ _).drew)
      have HAP := Lib.hid (om_append h3 hMd n2 HOK.out f.id da x.data.length dc x.data hfid (HDA.out.below (HB2.out.trans (Below.refl _ _).drew) (Nat.le_refl _)) HX.out.wd)
      have HC : Hid (∀ w' : World, w'.heap[w.heap.size]? = some (.cells (opC x da dc) 36 (0, 0)) → w'.heap[q]? = some (.cells #[.bool f.wr, .int .i64 f.id, .slice fa f.b.length fc] 128 (0, 0)) → w'.heap[p]? = some (.cells (stC t s M.now v) 70 (0, 0)) → w'.cell? ⟨p, 0, none⟩ = some (ptr t) ∧ w'.cell? ⟨q, 1, none⟩ = some (.int .i64 f.id) ∧ w'.cell? ⟨w.heap.size, 8, none⟩ = some (.slice da x.data.length dc)) := fun w' e1 e2 e3 => by
        refine ⟨?_, ?_, ?_⟩ <;> simp [World.cell?, e1, e2, e3, opC, stC]
      have HQ := Lib.hid (And.intro hq0 (And.intro hq1 hqd))
      have HH1 := Lib.hid h1
      have HH2 := Lib.hid h2
      have HH4 := Lib.hid h4
      have HOD := Lib.hid hod
      have HMD := Lib.hid hMd
      have hsz := HB2.out.size
      have hgs := (Array.getElem?_eq_some_iff.1 HRE.out).1
      have HGS := Lib.hid hgs
      have hps := HS1.out.low
      clear hg hr h600 hq0 hq2 hq3 hq4 h1 h1' h2 h3 h4 hqd hod hMd hfid z0 z1 z2 z3 z4 y1
      obtain ⟨ae, hae⟩ : ∃ ae, ae = (appendM M.t f.id x.data).1 := ⟨_, rfl⟩
      rw [← hae] at HAP HRR
      clear hae
      go_wp2_with fail
      refine wp_region_noPanic ?_
      refine wp_region_held_drew (S := (fun w' => w'.cell? ⟨p, 0, none⟩ = some (ptr t) ∧ w'.cell? ⟨q, 1, none⟩ = some (.int .i64 f.id) ∧ w'.cell? ⟨w.heap.size, 8, none⟩ = some (.slice da x.data.length dc))) (by kernel_rfl) ?_ (fun hS => ?_)
      · exact HC.out _ HOD.out HQ.out.2.2 HH1.out
      refine wpAnyH_take (i := 0) (oi := ?oi1) (v := ?v1) ?hi1 (by kernel_rfl) (by kernel_rfl) (by kernel_rfl) ?hq1 (Or.inl ⟨?hw1, ?hy1⟩) hS ?rest1
      case hi1 => simp only [List.getElem?_toArray, List.getElem?_cons_succ, List.getElem?_cons_zero]; rfl
      case hq1 => exact fun _ _ _ h => h
      case hw1 => rfl
      case hy1 => intro w hSw; (try dsimp only at hSw); go_simp; (try with_reducible rfl)
      try simp only [Act.put, List.setIfInBounds_toArray, List.set_cons_zero, List.set_cons_succ]
      refine wpAnyH_take (i := 1) (oi := ?oi2) (v := ?v2) ?hi2 (by kernel_rfl) (by kernel_rfl) (by kernel_rfl) ?hq2 (Or.inl ⟨?hw2, ?hy2⟩) hS ?rest2
      case hi2 => simp only [List.getElem?_toArray, List.getElem?_cons_succ, List.getElem?_cons_zero]; rfl
      case hq2 => exact fun _ _ _ h => h
      case hw2 => rfl
      case hy2 => intro w hSw; (try dsimp only at hSw); go_simp; (try with_reducible rfl)
      try simp only [Act.put, List.setIfInBounds_toArray, List.set_cons_zero, List.set_cons_succ]
      refine wpAnyH_take (i := 2) (oi := ?oi3) (v := ?v3) ?hi3 (by kernel_rfl) (by kernel_rfl) (by kernel_rfl) ?hq3 (Or.inl ⟨?hw3, ?hy3⟩) hS ?rest3
      case hi3 => simp only [List.getElem?_toArray, List.getElem?_cons_succ, List.getElem?_cons_zero]; rfl
      case hq3 => exact fun _ _ _ h => h
      case hw3 => rfl
      case hy3 => intro w hSw; (try dsimp only at hSw); go_simp; (try with_reducible rfl)
      try simp only [Act.put, List.setIfInBounds_toArray, List.set_cons_zero, List.set_cons_succ]
      refine wpAnyH_take (i := 3) (oi := ?oi4) (v := ?v4) ?hi4 (by kernel_rfl) (by kernel_rfl) (by kernel_rfl) ?hq4 (Or.inl ⟨?hw4, ?hy4⟩) hS ?rest4
      case hi4 => simp only [List.getElem?_toArray, List.getElem?_cons_succ, List.getElem?_cons_zero]; rfl
      case hq4 => exact fun _ _ _ h => h
      case hw4 => rfl
      case hy4 => intro w hSw; (try dsimp only at hSw); go_simp; (try with_reducible rfl)
      try simp only [Act.put, List.setIfInBounds_toArray, List.set_cons_zero, List.set_cons_succ]
      refine wpAnyH_take (i := 4) (oi := ?oi5) (v := ?v5) ?hi5 (by kernel_rfl) (by kernel_rfl) (by kernel_rfl) ?hq5 (Or.inl ⟨?hw5, ?hy5⟩) hS ?rest5
      case hi5 => simp only [List.getElem?_toArray, List.getElem?_cons_succ, List.getElem?_cons_zero]; rfl
      case hq5 => exact fun _ _ _ h => h
      case hw5 => rfl
      case hy5 => intro w hSw; (try dsimp only at hSw); go_simp; (try with_reducible rfl)
      try simp only [Act.put, List.setIfInBounds_toArray, List.set_cons_zero, List.set_cons_succ]
      refine wpAnyH_take (i := 5) (oi := ?oi6) (v := ?v6) ?hi6 (by kernel_rfl) (by kernel_rfl) (by kernel_rfl) ?hq6 (Or.inl ⟨?hw6, ?hy6⟩) hS ?rest6
      case hi6 => simp only [List.getElem?_toArray, List.getElem?_cons_succ, List.getElem?_cons_zero]; rfl
      case hq6 => exact fun _ _ _ h => h
      case hw6 => rfl
      case hy6 => intro w hSw; (try dsimp only at hSw); go_simp; (try with_reducible rfl)
      try simp only [Act.put, List.setIfInBounds_toArray, List.set_cons_zero, List.set_cons_succ]
      refine wpAnyH_take (i := 6) (oi := ?oi7) (v := ?v7) ?hi7 (by kernel_rfl) (by kernel_rfl) (by kernel_rfl) ?hq7 (Or.inl ⟨?hw7, ?hy7⟩) hS ?rest7
      case hi7 => simp only [List.getElem?_toArray, List.getElem?_cons_succ, List.getElem?_cons_zero]; rfl
      case hq7 => exact fun _ _ _ h => h
      case hw7 => rfl
      case hy7 => intro w hSw; (try dsimp only at hSw); go_simp; (try with_reducible rfl)
      try simp only [Act.put, List.setIfInBounds_toArray, List.set_cons_zero, List.set_cons_succ]
      refine wpAnyH_take (i := 7) (oi := ?oi8) (v := ?v8) ?hi8 (by kernel_rfl) (by kernel_rfl) (by kernel_rfl) ?hq8 (Or.inl ⟨?hw8, ?hy8⟩) hS ?rest8
      case hi8 => simp only [List.getElem?_toArray, List.getElem?_cons_succ, List.getElem?_cons_zero]; rfl
      case hq8 => exact fun _ _ _ h => h
      case hw8 => rfl
      case hy8 => intro w hSw; (try dsimp only at hSw); go_simp; (try with_reducible rfl)
      try simp only [Act.put, List.setIfInBounds_toArray, List.set_cons_zero, List.set_cons_succ]
      refine wpAnyH_take (i := 8) (oi := ?oi9) (v := ?v9) ?hi9 (by kernel_rfl) (by kernel_rfl) (by kernel_rfl) ?hq9 (Or.inl ⟨?hw9, ?hy9⟩) hS ?rest9
      case hi9 => simp only [List.getElem?_toArray, List.getElem?_cons_succ, List.getElem?_cons_zero]; rfl
      case hq9 => exact fun _ _ _ h => h
      case hw9 => rfl
      case hy9 => intro w hSw; (try dsimp only at hSw); go_simp; (try with_reducible rfl)
      try simp only [Act.put, List.setIfInBounds_toArray, List.set_cons_zero, List.set_cons_succ]
      refine wpAnyH_take (i := 9) (oi := ?oi10) (v := ?v10) ?hi10 (by kernel_rfl) (by kernel_rfl) (by kernel_rfl) ?hq10 (Or.inl ⟨?hw10, ?hy10⟩) hS ?rest10
      case hi10 => simp only [List.getElem?_toArray, List.getElem?_cons_succ, List.getElem?_cons_zero]; rfl
      case hq10 => exact fun _ _ _ h => h
      case hw10 => rfl
      case hy10 => intro w hSw; (try dsimp only at hSw); go_simp; (try with_reducible rfl)
      try simp only [Act.put, List.setIfInBounds_toArray, List.set_cons_zero, List.set_cons_succ]
      refine wpAnyH_ready (rs := [10]) (by kernel_rfl) (by simp) ?_
      refine AllReadyH.cons (o := ?o11) ?ho11 (fun K hK => ?_) AllReadyH.nil
      case ho11 => simp only [List.getElem?_toArray, List.getElem?_cons_succ, List.getElem?_cons_zero]; rfl
      go_simp
      (with_reducible refine HAP.out.mono ?_)
      rintro e w4 ⟨rfl, o4, hs4, hT4⟩
      have h0j : ¬ (fun m => m = j) 0 := fun e => n2 e.symm
      have hq4 := (hs4.block HQ.out.2.1 (by rw [HQ.out.1]; exact h0j)).trans HQ.out.2.2
      have hp4 := (hs4.block hps (by rw [HS1.out.own]; exact fun e => n8 e.symm)).trans HH1.out
      have hgo := HL0.out
      have ho4 := (hs4.block (b := w.heap.size) (Nat.lt_trans (Nat.lt_succ_self _) HGS.out) (by rw [hgo]; exact h0j)).trans HOD.out
      have hr4 := (hs4.block (b := w.heap.size + 1) HGS.out (by rw [HL1.out]; exact fun e => n9 e.symm)).trans HRE.out
      have hS4 := StateO.tree (M := M) HKK.out HH1.out HH2.out HH4.out HS1.out.own hps hs4 hT4
      have hM4 := HMD.out.step h0j hs4
      have HS4 := Lib.hid hS4
      have HM4 := Lib.hid hM4
      have HS4S := Lib.hid hs4
      have HL4 := Lib.hid ((hs4.old _ HGS.out).trans HL1.out)
      have HR4 := Lib.hid hr4
      have HCC := Lib.hid (HC.out _ ho4 hq4 hp4)
      have c8' := (HC.out _ ho4 hq4 hp4).2.2
      clear hq4 hp4 hgo ho4 hr4 hS4 hM4 hs4 hT4
      go_wp2_with fail
      refine hK.out _ _ (HCC.out) (fun hS => ?_)
      clear hK K
      try simp only [Act.put, List.setIfInBounds_toArray, List.set_cons_zero, List.set_cons_succ]
      refine wpAnyH_take (i := 11) (oi := ?oi12) (v := ?v12) ?hi12 (by kernel_rfl) (by kernel_rfl) (by kernel_rfl) ?hq12 (Or.inl ⟨?hw12, ?hy12⟩) hS ?rest12
      case hi12 => simp only [List.getElem?_toArray, List.getElem?_cons_succ, List.getElem?_cons_zero]; rfl
      case hq12 => exact fun _ _ _ h => h
      case hw12 => rfl
      case hy12 => intro w hSw; (try dsimp only at hSw); go_simp; (try with_reducible rfl)
      try simp only [Act.put, List.setIfInBounds_toArray, List.set_cons_zero, List.set_cons_succ]
      refine wpAnyH_done (by kernel_rfl) ?_ _
      refine NoPanic.normal ?_
      clear hS
      have HEND4 : Hid (∀ (z : ReM) (w5 w6 : World), Below w4.heap.size w4 w5 → RowSet w5 (w.heap.size + 1) (reC z none none 0 0) 33 w6 → z.data = [] → z.names = [] → StRet o i j k l w p (z, { M with t := (appendM M.t f.id x.data).2 }) (.returned (.agg (reC z none none 0 0))) w6) := fun z w5 w6 hb hs hz1 hz2 => by
        have hM5 := HM4.out.step (I := fun _ => False) (fun e => e) (Step.grow HM4.out hb)
        have hst := hs.step hM5 HL4.out
        have hS5 := (HS4.out.grow HM4.out hb).step (fun e => n4 e.symm) n7 n9 n10 hst
        have hst0 : Step o1 (fun m => m = i ∨ m = j ∨ m = k ∨ m = l) w3 o4 w6 := ((Step.behind HM1.out (Below.refl _ _).drew (HS4S.out.mono fun m hm => .inr (.inl hm))).trans (Step.grow HM4.out hb)).trans (hst.mono fun m hm => .inr (.inr (.inr hm)))
        refine ⟨o4, ⟨_, rfl, none, none, 0, 0, rfl, by rw [hz1]; exact Nat.le_refl _, by rw [hz2]; exact Nat.le_refl _, by rw [hz1]; exact RowAt.nil _ _ _, by rw [hz2]; exact strs_nil _ _⟩, (HST1.out.mono fun m hm => .inr (.inr (.inr hm))).trans hst0, hS5⟩
      by_cases hz : ae = 0
      · have HZ := Lib.hid hz
        have hz2 : (ae != 0) = false := by simpa using hz
        clear hz
        go_wp2_with (refine wpList_store_rep (by rfl) 33 _ _ (by rfl) (w.heap.size + 1) (reC ⟨0, x.data.length, [], [], none⟩ none none 0 0) (by rfl) (by rfl) _ HR4.out repSize rfl (reC_one _ _ _ _ _) ?_; intro w5 hs5; have HS5 := Lib.hid hs5; clear hs5)
        exact ret_rep rfl rfl rfl HS5.out.1 (by rw [HRR.out, if_neg (fun h => h HZ.out)]; exact HEND4.out _ _ _ (Below.refl _ _) HS5.out rfl rfl)
      · have HZ := Lib.hid hz
        have hz2 : (ae != 0) = true := by simpa using hz
        clear hz
        go_wp2_with fail
        (with_reducible refine (no_any _ _).mono ?_)
        rintro e w5 ⟨rfl, hb5⟩
        unfold noV
        have HB5 := Lib.hid hb5
        have HR5 := Lib.hid ((hb5.block _ (Array.getElem?_eq_some_iff.1 HR4.out).1).trans HR4.out)
        clear hb5
        go_wp2_with ((refine wpList_store_rep (by rfl) 33 _ _ (by rfl) (w.heap.size + 1) (reC (noM ae) none none 0 0) (by rfl) (by rfl) _ HR5.out repSize rfl (reC_one _ _ _ _ _) ?_); intro w6 hs6; have HS6 := Lib.hid hs6; clear hs6)
        exact ret_rep rfl rfl rfl HS6.out.1 (by rw [HRR.out, if_pos HZ.out]; exact HEND4.out _ _ _ HB5.out HS6.out rfl rfl)
end
end Go.Proofs.YtpgklnhkfgbpgaaGreatDoor
