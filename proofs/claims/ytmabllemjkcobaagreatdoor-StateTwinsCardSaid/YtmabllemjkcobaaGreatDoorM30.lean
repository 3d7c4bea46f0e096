/- package state: read. package state: write. package state: close. -/
import Derived.Test.YtmabllemjkcobaaGreatDoorM29
namespace Go.Proofs.YtmabllemjkcobaaGreatDoor
open Go.ChangeShapes Go.WideShapes Go.ChangeAt Go.RowKit
set_option linter.unusedVariables false
set_option linter.unusedSimpArgs false

set_option maxHeartbeats 1000000 in
theorem part_ok2 {S : Nat → Prop} (a : Option Addr) (l c : Nat) (bs : List UInt8) (A N : Nat) (w : World) (hl : l ≤ 1000000000) (hlc : l ≤ c) (hA : A ≤ 9223372036854775807) (hN : N ≤ 9223372036854775807) (hr : RowAt S w a l (bs.map bv)) :
    Calls Tryz.prog 101 #[.slice a l c, .int .i64 A, .int .i64 N] w (RetPart w ((bs.drop A).take N) 0) := by
  have z1 : (0 : Int) ≤ (A : Int) := by omega
  have z2 : (0 : Int) ≤ (N : Int) := by omega
  have z3 : decide ((A : Int) < 0) = false := by simp
  have z4 : decide ((N : Int) < 0) = false := by simp
  have HR := Lib.hid hr
  have hL : bs.length = l := by have := hr.length; simpa using this
  have HL := Lib.hid hL
  clear hr hL
  by_cases hcap : c = min A l
  · subst hcap
    go_enter Tryz.func101, Tryz.ntmps101
    go_wp2_with fail
    (with_reducible refine (bclone_row (S := S) _ _ _ ((bs.drop A).take N) _ (by omega) (part_row0 _ A N HL.out (by omega) (by omega))).mono ?_)
    rintro e w1 ⟨a1, n1, c1, rfl, hn1, hr1, hb1⟩
    have HR1 := Lib.hid hr1
    have HB1 := Lib.hid hb1
    clear hr1 hb1
    go_wp2_with fail
    go_ret2
    exact ⟨a1, n1, c1, rfl, hn1, HR1.out, HB1.out⟩
  · cases a with
    | none =>
      go_enter Tryz.func101, Tryz.ntmps101
      go_wp2_with fail
      (with_reducible refine (bclone_row (S := S) _ _ _ ((bs.drop A).take N) _ (by omega) (part_rowN A N HR.out (by omega))).mono ?_)
      rintro e w1 ⟨a1, n1, c1, rfl, hn1, hr1, hb1⟩
      have HR1 := Lib.hid hr1
      have HB1 := Lib.hid hb1
      clear hr1 hb1
      go_wp2_with fail
      go_ret2
      exact ⟨a1, n1, c1, rfl, hn1, HR1.out, HB1.out⟩
    | some ad =>
      go_enter Tryz.func101, Tryz.ntmps101
      go_wp2_with fail
      (with_reducible refine (bclone_row (S := S) _ _ _ ((bs.drop A).take N) _ (by omega) (part_rowS A N HR.out (by omega) (by omega))).mono ?_)
      rintro e w1 ⟨a1, n1, c1, rfl, hn1, hr1, hb1⟩
      have HR1 := Lib.hid hr1
      have HB1 := Lib.hid hb1
      clear hr1 hb1
      go_wp2_with fail
      go_ret2
      exact ⟨a1, n1, c1, rfl, hn1, HR1.out, HB1.out⟩
theorem part_any2 {S : Nat → Prop} (a : Option Addr) (l c : Nat) (bs : List UInt8) (at_ n : Int) (w : World) (hl : l ≤ 1000000000) (hlc : l ≤ c) (hA : (Lit.int .i64 at_).wf = true) (hN : (Lit.int .i64 n).wf = true) (hr : RowAt S w a l (bs.map bv)) :
    Calls Tryz.prog 101 #[.slice a l c, .int .i64 at_, .int .i64 n] w (RetPart w (partB bs at_ n) (partE at_ n)) := by
  simp only [Lit.wf, IntKind.min, IntKind.max, IntKind.signed, IntKind.bits, Bool.and_eq_true, decide_eq_true_eq] at hA hN
  by_cases h : at_ < 0 ∨ n < 0
  · unfold partB partE
    rw [if_pos h, if_pos h]
    exact part_bad a l c at_ n w h
  · unfold partB partE
    rw [if_neg h, if_neg h]
    have := part_ok2 (S := S) a l c bs at_.toNat n.toNat w hl hlc (by simp at hA; omega) (by simp at hN; omega) hr
    rw [show ((at_.toNat : Nat) : Int) = at_ by omega, show ((n.toNat : Nat) : Int) = n by omega] at this
    exact this
/-- What is read of a descriptor. -/
def sreadM (M : StM) (x : OpM) : ReM := match getFd M x.fd false with
  | none => noM 26
  | some f => ⟨partE x.at_ x.n, (partB f.b x.at_ x.n).length, partB f.b x.at_ x.n, [], none⟩
def RepRet (o : Mark) (r : ReM) (e : Ending) (w' : World) : Prop := ∃ v, e = .returned v ∧ ReplyAt o w' v r
section
variable {W w : World} {o : Mark} {i j k p : Nat} {M : StM}
set_option maxRecDepth 100000 in
set_option maxHeartbeats 4000000 in
theorem sread_any (h : StateO o i j k w p M) (hM : Marks W o w) (x : OpM) (hx : OpOk x) (hb : ∀ n f, M.fds n = some f → f.b.length ≤ 1000000000) (da : Option Addr) (dc : Nat) :
    Calls Tryz.prog 40 #[ptr p, .agg (opC x da dc)] w fun e w' => RepRet o (sreadM M x) e w' ∧ Below w.heap.size w w' := by
  have HM := Lib.hid hM
  have HW : Hid (∀ w' b, Below w.heap.size w w' → Calls Tryz.prog 100 #[ptr p, .int .i64 x.fd, .bool b] w' fun e w'' => w'' = w' ∧ FdRet o w' M x.fd b e) := fun w' b hb => fd_any (h.grow hM hb) x.fd b
  have HX := Lib.hid hx
  have HB := Lib.hid hb
  clear h hM hx hb
  unfold opC
  go_enter Tryz.func40, Tryz.ntmps40
  go_wp2_with fail
  obtain ⟨w2, hw2⟩ : ∃ w2, w2 = (w.alloc (.cells (opC x da dc) 28)).alloc (.cells (reC (noM 0) none none 0 0) 36) := ⟨_, rfl⟩
  have hb2 : Below w.heap.size w w2 := by rw [hw2]; exact (wall w _).trans ((wall _ _).mono (by simp))
  have HC2 : Hid (Calls Tryz.prog 100 #[ptr p, .int .i64 x.fd, .bool false] ((w.alloc (.cells (opC x da dc) 28)).alloc (.cells (reC (noM 0) none none 0 0) 36)) fun e w'' => w'' = w2 ∧ FdRet o w2 M x.fd false e) := by rw [← hw2]; exact HW.out w2 false hb2
  unfold opC reC noM at HC2
  dsimp only [List.length_nil] at HC2
  have hop : w2.heap[w.heap.size]? = some (.cells (opC x da dc) 28 (0, 0)) := by
    rw [hw2]
    exact ((wall _ _).block _ (by simp)).trans (MapKept.heap_alloc w _).1
  have hre : w2.heap[w.heap.size + 1]? = some (.cells (reC (noM 0) none none 0 0) 36 (0, 0)) := by
    rw [hw2]
    have := (MapKept.heap_alloc (w.alloc (.cells (opC x da dc) 28)) (.cells (reC (noM 0) none none 0 0) 36)).1
    rw [World.size_alloc] at this
    exact this
  (with_reducible refine HC2.out.mono ?_)
  rintro e w3 ⟨rfl, hfd⟩
  have HOP := Lib.hid hop
  have HRE := Lib.hid hre
  have HB2 := Lib.hid hb2
  clear hop hre hb2 hw2 HC2
  rcases hfd with ⟨hg, rfl⟩ | ⟨f, fv, hg, rfl, hfv⟩
  · have hr : sreadM M x = noM 26 := by unfold sreadM; rw [hg]
    have HRR := Lib.hid hr
    clear hg hr
    go_wp2_with fail
    (with_reducible refine (no_any _ _).mono ?_)
    rintro e w4 ⟨rfl, hb4⟩
    unfold noV
    have HB4 := Lib.hid (HB2.out.trans (hb4.mono HB2.out.size))
    have HR4 := Lib.hid ((hb4.block _ (Array.getElem?_eq_some_iff.1 HRE.out).1).trans HRE.out)
    go_wp2_with (refine wpList_store_rep (by rfl) 36 _ _ (by rfl) (w.heap.size + 1) (reC (noM 26) none none 0 0) (by rfl) (by rfl) _ HR4.out repSize rfl (reC_one _ _ _ _ _) ?_; intro w5 hs5; have HS5 := Lib.hid hs5; clear hs5)
    refine ret_rep rfl rfl rfl HS5.out.1 ⟨⟨_, rfl, ?_⟩, HS5.out.below HB4.out (by omega)⟩
    rw [HRR.out]
    exact ReplyAt.no_ _ _ _
  · have hr : sreadM M x = ⟨partE x.at_ x.n, (partB f.b x.at_ x.n).length, partB f.b x.at_ x.n, [], none⟩ := by unfold sreadM; rw [hg]
    have HRR := Lib.hid hr
    have hfb : f.b.length ≤ 1000000000 := by
      unfold getFd at hg
      split at hg
      · split at hg
        · split at hg
          · cases hg; exact HB.out _ _ (by assumption)
          · cases hg
        · cases hg
      · cases hg
    obtain ⟨q, fa, fc, rfl, hq0, hq1, hq2, hq3, hq4⟩ := hfv
    have HQ2 := Lib.hid hq2
    have HPA := Lib.hid (part_any2 fa f.b.length fc f.b x.at_ x.n w3.drew hfb hq3 HX.out.wa HX.out.wn (hq4.below (Below.refl _ _).drew (Nat.le_refl _)))
    have HK : Hid (∀ w' : World, Below w3.heap.size w3 w' → w'.cell? ⟨q, 2, none⟩ = some (.slice fa f.b.length fc) ∧ w'.cell? ⟨w.heap.size, 4, none⟩ = some (.int .i64 x.at_) ∧ w'.cell? ⟨w.heap.size, 5, none⟩ = some (.int .i64 x.n)) := fun w' hb => by
      have h1 := (hb.block q hq1).trans HQ2.out
      have h2 := (hb.block _ (Array.getElem?_eq_some_iff.1 HOP.out).1).trans HOP.out
      refine ⟨?_, ?_, ?_⟩ <;> simp [World.cell?, h1, h2, opC]
    clear hg hr hq0 hq2 hq3 hq4 hfb
    obtain ⟨pb, hpb⟩ : ∃ pb, pb = partB f.b x.at_ x.n := ⟨_, rfl⟩
    obtain ⟨pe, hpe⟩ : ∃ pe, pe = partE x.at_ x.n := ⟨_, rfl⟩
    rw [← hpb, ← hpe] at HPA
    rw [← hpb, ← hpe] at HRR
    clear hpb hpe
    go_wp2_with fail
    refine wp_region_noPanic ?_
    refine wp_region_held_drew (S := (fun w' => w'.cell? ⟨q, 2, none⟩ = some (.slice fa f.b.length fc) ∧ w'.cell? ⟨w.heap.size, 4, none⟩ = some (.int .i64 x.at_) ∧ w'.cell? ⟨w.heap.size, 5, none⟩ = some (.int .i64 x.n))) (by kernel_rfl) ?_ (fun hS => ?_)
    · exact HK.out _ (Below.refl _ _).drew
    refine tkH 0 (hS := hS) (h := ?_)
    refine tkH 1 (hS := hS) (h := ?_)
    refine tkH 2 (hS := hS) (h := ?_)
    refine tkH 3 (hS := hS) (h := ?_)
    refine tkH 4 (hS := hS) (h := ?_)
    refine tkH 5 (hS := hS) (h := ?_)
    refine tkH 6 (hS := hS) (h := ?_)
    refine tkH 7 (hS := hS) (h := ?_)
    refine rdH 8 (h := fun K hK => ?_)
    go_simp
    (with_reducible refine HPA.out.mono ?_)
    rintro e w4 ⟨a4, n4, c4, rfl, hn4, hr4, hb4⟩
    have hl4 : pb.length = n4 := by have := hr4.length; simpa using this
    subst hl4
    have hb43 : Below w3.heap.size w3 w4 := (Below.refl _ _).drew.trans hb4
    have HB4 := Lib.hid (HB2.out.trans (hb43.mono HB2.out.size))
    have HB43 := Lib.hid hb43
    have HR4 := Lib.hid ((hb43.block _ (Array.getElem?_eq_some_iff.1 HRE.out).1).trans HRE.out)
    have HN4 := Lib.hid hn4
    have HROW := Lib.hid hr4
    clear hn4 hr4 hb4 hb43
    go_wp2_with fail
    refine hK.out _ _ (HK.out _ HB43.out) (fun hS => ?_)
    clear hK K
    try simp only [Act.put, List.setIfInBounds_toArray, List.set_cons_zero, List.set_cons_succ]
    refine tkH 9 (hS := hS) (h := ?_)
    refine tkH 10 (hS := hS) (h := ?_)
    refine tkH 11 (hS := hS) (h := ?_)
    refine tkH 12 (hS := hS) (h := ?_)
    refine tkH 13 (hS := hS) (h := ?_)
    refine wpAnyH_done (by kernel_rfl) ?_ _
    refine NoPanic.normal ?_
    clear hS
    go_wp2_with (refine wpList_store_rep (by rfl) 36 _ _ (by rfl) (w.heap.size + 1) (reC ⟨pe, pb.length, pb, [], none⟩ a4 none c4 0) (by rfl) (by rfl) _ HR4.out repSize rfl (reC_one _ _ _ _ _) ?_; intro w5 hs5; have HS5 := Lib.hid hs5; clear hs5)
    refine ret_rep rfl rfl rfl HS5.out.1 ⟨⟨_, rfl, ?_⟩, HS5.out.below HB4.out (by omega)⟩
    rw [HRR.out]
    have hs3 := HB2.out.size
    have hlt := (Array.getElem?_eq_some_iff.1 HRE.out).1
    refine ⟨a4, none, c4, 0, rfl, HN4.out, Nat.le_refl _, ?_, strs_nil _ _⟩
    refine HROW.out.move (by rw [HS5.out.2.2]; exact Nat.le_refl _) fun b hb hbw => ⟨⟨Decidable.byContradiction fun h0 => ?_, by rw [HS5.out.2.2]; exact hb.2⟩, HS5.out.2.1.block b hbw (fun e : b = w.heap.size + 1 => ?_)⟩
    · have := (HM.out.new b h0).2
      have h3 : w3.heap.size ≤ b := hb.1
      omega
    · have h3 : w3.heap.size ≤ b := hb.1
      omega
end
end Go.Proofs.YtmabllemjkcobaaGreatDoor
namespace Go.Proofs.YtmabllemjkcobaaGreatDoor
open Go.ChangeShapes Go.WideShapes Go.ChangeAt Go.RowKit
set_option linter.unusedVariables false
set_option linter.unusedSimpArgs false

/-- The marks that a state's call may turn: l marks what is its own for a while. -/
structure Mk (i j k l : Nat) : Prop where
  ne : i ≠ 0 ∧ j ≠ 0 ∧ k ≠ 0 ∧ l ≠ 0 ∧ i ≠ j ∧ i ≠ k ∧ i ≠ l ∧ j ≠ k ∧ j ≠ l ∧ k ≠ l
theorem RowSet.step {o : Mark} {l : Nat} {w4 w5 : World} {g : Nat} {cs : Array Value} {t : TypeId} {W : World} (hM : Marks W o w4) (hs : RowSet w4 g cs t w5) (hg : o g = l) : Step o (fun m => m = l) w4 o w5 := by
  obtain ⟨_, h2, h3⟩ := hs
  refine ⟨fun _ _ => rfl, fun b hb hn => absurd (hM.new b hn).2 (by omega), h2.mono fun x _ (hx : x = g) => by rw [hx]; exact hg⟩
section
variable {W w : World} {o : Mark} {i j k l p : Nat} {M : StM}
theorem StateO.tree {o' : Mark} {w' : World} {t s : Nat} {v : Nat → Value} {T' : TrM} (hk : Mk i j k l) (h1 : w.heap[p]? = some (.cells (stC t s M.now v) 66 (0, 0))) (h2 : SnapsO o i w s M.s) (h4 : ∀ n, n < 8 → FdAt o w (v n) (M.fds n)) (hown : o p = k) (hlow : p < w.heap.size) (hs : Step o (fun m => m = j) w o' w') (hT : TreeO o' j w' t T') : StateO o' i j k w' p { M with t := T' } := by
  obtain ⟨n1, n2, n3, n4, n5, n6, n7, n8, n9, n10⟩ := hk.ne
  have h0 : ¬ (fun m => m = j) 0 := fun e => n2 e.symm
  exact ⟨⟨t, s, v, (hs.block hlow (by rw [hown]; exact fun e => n8 e.symm)).trans h1, h2.step h0 n5 hs, hT, fun n hn => (h4 n hn).step h0 hs⟩, (hs.old p hlow).trans hown, Nat.lt_of_lt_of_le hlow hs.keep.size⟩
/-- What a call of a state gives. -/
def StRet (o : Mark) (i j k l : Nat) (w : World) (p : Nat) (q : ReM × StM) (e : Ending) (w' : World) : Prop :=
  ∃ o', RepRet o' q.1 e w' ∧ Step o (fun m => m = i ∨ m = j ∨ m = k ∨ m = l) w o' w' ∧ StateO o' i j k w' p q.2
def swriteM (M : StM) (x : OpM) : ReM × StM := match getFd M x.fd true with
  | none => (noM 26, M)
  | some f => if 600 < x.data.length then (noM 3, M) else
    (if (appendM M.t f.id x.data).1 ≠ 0 then noM (appendM M.t f.id x.data).1 else ⟨0, x.data.length, [], [], none⟩, { M with t := (appendM M.t f.id x.data).2 })
set_option maxRecDepth 100000 in
set_option maxHeartbeats 8000000 in
theorem swrite_any {S : Nat → Prop} (hS : StateO o i j k w p M) (hM : Marks W o w) (hk : Mk i j k l) (hok : OkM M.t) (x : OpM) (hx : OpOk x) (hfi : ∀ n f, M.fds n = some f → (Lit.int .i64 f.id).wf = true) (da : Option Addr) (dc : Nat) (hda : RowAt S w da x.data.length (x.data.map bv)) :
    Calls Tryz.prog 41 #[ptr p, .agg (opC x da dc)] w (StRet o i j k l w p (swriteM M x)) := by
  have HKK := Lib.hid hk
  have HOK := Lib.hid hok
  have HX := Lib.hid hx
  have HM := Lib.hid hM
  have HS := Lib.hid hS
  have HFI := Lib.hid hfi
  have HDA := Lib.hid hda
  clear hS hM hk hok hx hfi hda
  unfold opC
  go_enter Tryz.func41, Tryz.ntmps41
  go_wp2_with fail
  obtain ⟨w2, hw2⟩ : ∃ w2, w2 = (w.alloc (.cells (opC x da dc) 28)).alloc (.cells (reC (noM 0) none none 0 0) 36) := ⟨_, rfl⟩
  have hb2 : Below w.heap.size w w2 := by rw [hw2]; exact (wall w _).trans ((wall _ _).mono (by simp))
  have hop : w2.heap[w.heap.size]? = some (.cells (opC x da dc) 28 (0, 0)) := by
    rw [hw2]
    exact ((wall _ _).block _ (by simp)).trans (MapKept.heap_alloc w _).1
  have hre : w2.heap[w.heap.size + 1]? = some (.cells (reC (noM 0) none none 0 0) 36 (0, 0)) := by
    rw [hw2]
    have := (MapKept.heap_alloc (w.alloc (.cells (opC x da dc) 28)) (.cells (reC (noM 0) none none 0 0) 36)).1
    rw [World.size_alloc] at this
    exact this
  obtain ⟨n1, n2, n3, n4, n5, n6, n7, n8, n9, n10⟩ := HKK.out.ne
  obtain ⟨o1, hs1, hl1, hl2⟩ := mark_new HM.out l (fun b => b = w.heap.size + 1) (w' := w2) (fun b hb => by subst hb; exact ⟨by omega, (Array.getElem?_eq_some_iff.1 hre).1⟩) hb2
  have hS1 : StateO o1 i j k w2 p M := HS.out.step (fun e => n4 e.symm) n7 n9 n10 hs1
  have hM1 : Marks W o1 w2 := HM.out.step (fun e => n4 e.symm) hs1
  have HC2 : Hid (Calls Tryz.prog 100 #[ptr p, .int .i64 x.fd, .bool true] ((w.alloc (.cells (opC x da dc) 28)).alloc (.cells (reC (noM 0) none none 0 0) 36)) fun e w'' => w'' = w2 ∧ FdRet o1 w2 M x.fd true e) := by rw [← hw2]; exact Lib.hid (fd_any hS1 x.fd true)
  unfold opC reC noM at HC2
  dsimp only [List.length_nil] at HC2
  have HOP := Lib.hid hop
  have HRE := Lib.hid hre
  have HB2 := Lib.hid hb2
  have HS1 := Lib.hid hS1
  have HM1 := Lib.hid hM1
  have HL1 := Lib.hid (hl1 _ rfl)
  have HL0 : Hid (o1 w.heap.size = 0) := Lib.hid ((hl2 w.heap.size (by omega)).trans (Decidable.byContradiction fun h9 => by have := (HM.out.new _ h9).2; omega))
  have HST1 := Lib.hid hs1
  clear hop hre hb2 hw2 hS1 hM1 hl1 hl2 hs1
  (with_reducible refine HC2.out.mono ?_)
  rintro e w3 ⟨rfl, hfd⟩
  clear HC2
  have HEND : Hid (∀ (z : ReM) (w4 w5 : World), Below w3.heap.size w3 w4 → RowSet w4 (w.heap.size + 1) (reC z none none 0 0) 36 w5 → z.data = [] → z.names = [] → StRet o i j k l w p (z, M) (.returned (.agg (reC z none none 0 0))) w5) := fun z w4 w5 hb hs hz1 hz2 => by
    have hM4 := HM1.out.step (I := fun _ => False) (fun e => e) (Step.grow HM1.out hb)
    have hst := hs.step hM4 HL1.out
    have hS4 := (HS1.out.grow HM1.out hb).step (fun e => n4 e.symm) n7 n9 n10 hst
    refine ⟨o1, ⟨_, rfl, none, none, 0, 0, rfl, by rw [hz1]; exact Nat.le_refl _, by rw [hz2]; exact Nat.le_refl _, by rw [hz1]; exact RowAt.nil _ _ _, by rw [hz2]; exact strs_nil _ _⟩, ((HST1.out.trans (Step.grow HM1.out hb)).trans hst).mono fun m hm => .inr (.inr (.inr hm)), hS4⟩
  rcases hfd with ⟨hg, rfl⟩ | ⟨f, fv, hg, rfl, hfv⟩
  · have hr : swriteM M x = (noM 26, M) := by unfold swriteM; rw [hg]
    have HRR := Lib.hid hr
    clear hg hr
    go_wp2_with fail
    (with_reducible refine (no_any _ _).mono ?_)
    rintro e w4 ⟨rfl, hb4⟩
    unfold noV
    have HB4 := Lib.hid hb4
    have HR4 := Lib.hid ((hb4.block _ (Array.getElem?_eq_some_iff.1 HRE.out).1).trans HRE.out)
    clear hb4
    go_wp2_with (refine wpList_store_rep (by rfl) 36 _ _ (by rfl) (w.heap.size + 1) (reC (noM 26) none none 0 0) (by rfl) (by rfl) _ HR4.out repSize rfl (reC_one _ _ _ _ _) ?_; intro w5 hs5; have HS5 := Lib.hid hs5; clear hs5)
    exact ret_rep rfl rfl rfl HS5.out.1 (by rw [HRR.out]; exact HEND.out _ _ _ HB4.out HS5.out rfl rfl)
  · by_cases h600 : 600 < x.data.length
    · have hr : swriteM M x = (noM 3, M) := by unfold swriteM; rw [hg]; simp only [if_pos h600]
      have HRR := Lib.hid hr
      have hd : decide ((600 : Int) < (x.data.length : Int)) = true := by simp; omega
      have c8 : w3.cell? ⟨w.heap.size, 8, none⟩ = some (.slice da x.data.length dc) := by simp [World.cell?, HOP.out, opC]
      clear hg hr hfv h600
      go_wp2_with fail
      (with_reducible refine (no_any _ _).mono ?_)
      rintro e w4 ⟨rfl, hb4⟩
      unfold noV
      have HB4 := Lib.hid hb4
      have HR4 := Lib.hid ((hb4.block _ (Array.getElem?_eq_some_iff.1 HRE.out).1).trans HRE.out)
      clear hb4
      go_wp2_with (refine wpList_store_rep (by rfl) 36 _ _ (by rfl) (w.heap.size + 1) (reC (noM 3) none none 0 0) (by rfl) (by rfl) _ HR4.out repSize rfl (reC_one _ _ _ _ _) ?_; intro w5 hs5; have HS5 := Lib.hid hs5; clear hs5)
      exact ret_rep rfl rfl rfl HS5.out.1 (by rw [HRR.out]; exact HEND.out _ _ _ HB4.out HS5.out rfl rfl)
    · have hd : decide ((600 : Int) < (x.data.length : Int)) = false := by simp; omega
      have hr : swriteM M x = (if (appendM M.t f.id x.data).1 ≠ 0 then noM (appendM M.t f.id x.data).1 else ⟨0, x.data.length, [], [], none⟩, { M with t := (appendM M.t f.id x.data).2 }) := by unfold swriteM; rw [hg]; simp only [if_neg h600]
      have HRR := Lib.hid hr
      have hfid : (Lit.int .i64 f.id).wf = true := by
        unfold getFd at hg
        split at hg
        · split at hg
          · split at hg
            · cases hg; exact HFI.out _ _ (by assumption)
            · cases hg
          · cases hg
        · cases hg
      obtain ⟨q, fa, fc, rfl, hq0, hq1, hq2, hq3, hq4⟩ := hfv
      obtain ⟨t, s, v, h1, h2, h3, h4⟩ := (HS1.out.grow HM1.out (Below.refl _ _).drew).at_
      have h1' : w3.heap[p]? = some (.cells (stC t s M.now v) 66 (0, 0)) := h1
      obtain ⟨z0, z1, z2, z3, z4⟩ := st_cells h1'
      have y1 : w3.cell? ⟨q, 1, none⟩ = some (.int .i64 f.id) := by simp [World.cell?, hq2]
      have c8 : w3.cell? ⟨w.heap.size, 8, none⟩ = some (.slice da x.data.length dc) := by simp [World.cell?, HOP.out, opC]
      have hqd : w3.drew.heap[q]? = some (.cells #[.bool f.wr, .int .i64 f.id, .slice fa f.b.length fc] 141 (0, 0)) := hq2
      have hod : w3.drew.heap[w.heap.size]? = some (.cells (opC x da dc) 28 (0, 0)) := HOP.out
      have hMd := HM1.out.step (I := fun _ => False) (fun e => e) (Step.grow HM1.out (Below.refl _ _).drew)
      have HAP := Lib.hid (om_append h3 hMd n2 HOK.out f.id da x.data.length dc x.data hfid (HDA.out.below (HB2.out.trans (Below.refl _ _).drew) (Nat.le_refl _)) HX.out.wd)
      have HC : Hid (∀ w' : World, w'.heap[w.heap.size]? = some (.cells (opC x da dc) 28 (0, 0)) → w'.heap[q]? = some (.cells #[.bool f.wr, .int .i64 f.id, .slice fa f.b.length fc] 141 (0, 0)) → w'.heap[p]? = some (.cells (stC t s M.now v) 66 (0, 0)) → w'.cell? ⟨p, 0, none⟩ = some (ptr t) ∧ w'.cell? ⟨q, 1, none⟩ = some (.int .i64 f.id) ∧ w'.cell? ⟨w.heap.size, 8, none⟩ = some (.slice da x.data.length dc)) := fun w' e1 e2 e3 => by
        refine ⟨?_, ?_, ?_⟩ <;> simp [World.cell?, e1, e2, e3, opC, stC]
      have HQ := Lib.hid (And.intro hq0 (And.intro hq1 hqd))
      have HH1 := Lib.hid h1
      have HH2 := Lib.hid h2
      have HH4 := Lib.hid h4
      have HOD := Lib.hid hod
      have HMD := Lib.hid hMd
      have hsz := HB2.out.size
      have hgs := (Array.getElem?_eq_some_iff.1 HRE.out).1
      have HGS := Lib.hid hgs
      have hps := HS1.out.low
      clear hg hr h600 hq0 hq2 hq3 hq4 h1 h1' h2 h3 h4 hqd hod hMd hfid z0 z1 z2 z3 z4 y1
      obtain ⟨ae, hae⟩ : ∃ ae, ae = (appendM M.t f.id x.data).1 := ⟨_, rfl⟩
      rw [← hae] at HAP HRR
      clear hae
      go_wp2_with fail
      refine wp_region_noPanic ?_
      refine wp_region_held_drew (S := (fun w' => w'.cell? ⟨p, 0, none⟩ = some (ptr t) ∧ w'.cell? ⟨q, 1, none⟩ = some (.int .i64 f.id) ∧ w'.cell? ⟨w.heap.size, 8, none⟩ = some (.slice da x.data.length dc))) (by kernel_rfl) ?_ (fun hS => ?_)
      · exact HC.out _ HOD.out HQ.out.2.2 HH1.out
      refine tkH 0 (hS := hS) (h := ?_)
      refine tkH 1 (hS := hS) (h := ?_)
      refine tkH 2 (hS := hS) (h := ?_)
      refine tkH 3 (hS := hS) (h := ?_)
      refine tkH 4 (hS := hS) (h := ?_)
      refine tkH 5 (hS := hS) (h := ?_)
      refine tkH 6 (hS := hS) (h := ?_)
      refine tkH 7 (hS := hS) (h := ?_)
      refine tkH 8 (hS := hS) (h := ?_)
      refine tkH 9 (hS := hS) (h := ?_)
      refine rdH 10 (h := fun K hK => ?_)
      go_simp
      (with_reducible refine HAP.out.mono ?_)
      rintro e w4 ⟨rfl, o4, hs4, hT4⟩
      have h0j : ¬ (fun m => m = j) 0 := fun e => n2 e.symm
      have hq4 := (hs4.block HQ.out.2.1 (by rw [HQ.out.1]; exact h0j)).trans HQ.out.2.2
      have hp4 := (hs4.block hps (by rw [HS1.out.own]; exact fun e => n8 e.symm)).trans HH1.out
      have hgo := HL0.out
      have ho4 := (hs4.block (b := w.heap.size) (Nat.lt_trans (Nat.lt_succ_self _) HGS.out) (by rw [hgo]; exact h0j)).trans HOD.out
      have hr4 := (hs4.block (b := w.heap.size + 1) HGS.out (by rw [HL1.out]; exact fun e => n9 e.symm)).trans HRE.out
      have hS4 := StateO.tree (M := M) HKK.out HH1.out HH2.out HH4.out HS1.out.own hps hs4 hT4
      have hM4 := HMD.out.step h0j hs4
      have HS4 := Lib.hid hS4
      have HM4 := Lib.hid hM4
      have HS4S := Lib.hid hs4
      have HL4 := Lib.hid ((hs4.old _ HGS.out).trans HL1.out)
      have HR4 := Lib.hid hr4
      have HCC := Lib.hid (HC.out _ ho4 hq4 hp4)
      have c8' := (HC.out _ ho4 hq4 hp4).2.2
      clear hq4 hp4 hgo ho4 hr4 hS4 hM4 hs4 hT4
      go_wp2_with fail
      refine hK.out _ _ (HCC.out) (fun hS => ?_)
      clear hK K
      try simp only [Act.put, List.setIfInBounds_toArray, List.set_cons_zero, List.set_cons_succ]
      refine tkH 11 (hS := hS) (h := ?_)
      refine wpAnyH_done (by kernel_rfl) ?_ _
      refine NoPanic.normal ?_
      clear hS
      have HEND4 : Hid (∀ (z : ReM) (w5 w6 : World), Below w4.heap.size w4 w5 → RowSet w5 (w.heap.size + 1) (reC z none none 0 0) 36 w6 → z.data = [] → z.names = [] → StRet o i j k l w p (z, { M with t := (appendM M.t f.id x.data).2 }) (.returned (.agg (reC z none none 0 0))) w6) := fun z w5 w6 hb hs hz1 hz2 => by
        have hM5 := HM4.out.step (I := fun _ => False) (fun e => e) (Step.grow HM4.out hb)
        have hst := hs.step hM5 HL4.out
        have hS5 := (HS4.out.grow HM4.out hb).step (fun e => n4 e.symm) n7 n9 n10 hst
        have hst0 : Step o1 (fun m => m = i ∨ m = j ∨ m = k ∨ m = l) w3 o4 w6 := ((Step.behind HM1.out (Below.refl _ _).drew (HS4S.out.mono fun m hm => .inr (.inl hm))).trans (Step.grow HM4.out hb)).trans (hst.mono fun m hm => .inr (.inr (.inr hm)))
        refine ⟨o4, ⟨_, rfl, none, none, 0, 0, rfl, by rw [hz1]; exact Nat.le_refl _, by rw [hz2]; exact Nat.le_refl _, by rw [hz1]; exact RowAt.nil _ _ _, by rw [hz2]; exact strs_nil _ _⟩, (HST1.out.mono fun m hm => .inr (.inr (.inr hm))).trans hst0, hS5⟩
      by_cases hz : ae = 0
      · have HZ := Lib.hid hz
        have hz2 : (ae != 0) = false := by simpa using hz
        clear hz
        go_wp2_with (refine wpList_store_rep (by rfl) 36 _ _ (by rfl) (w.heap.size + 1) (reC ⟨0, x.data.length, [], [], none⟩ none none 0 0) (by rfl) (by rfl) _ HR4.out repSize rfl (reC_one _ _ _ _ _) ?_; intro w5 hs5; have HS5 := Lib.hid hs5; clear hs5)
        exact ret_rep rfl rfl rfl HS5.out.1 (by rw [HRR.out, if_neg (fun h => h HZ.out)]; exact HEND4.out _ _ _ (Below.refl _ _) HS5.out rfl rfl)
      · have HZ := Lib.hid hz
        have hz2 : (ae != 0) = true := by simpa using hz
        clear hz
        go_wp2_with fail
        (with_reducible refine (no_any _ _).mono ?_)
        rintro e w5 ⟨rfl, hb5⟩
        unfold noV
        have HB5 := Lib.hid hb5
        have HR5 := Lib.hid ((hb5.block _ (Array.getElem?_eq_some_iff.1 HR4.out).1).trans HR4.out)
        clear hb5
        go_wp2_with ((refine wpList_store_rep (by rfl) 36 _ _ (by rfl) (w.heap.size + 1) (reC (noM ae) none none 0 0) (by rfl) (by rfl) _ HR5.out repSize rfl (reC_one _ _ _ _ _) ?_); intro w6 hs6; have HS6 := Lib.hid hs6; clear hs6)
        exact ret_rep rfl rfl rfl HS6.out.1 (by rw [HRR.out, if_pos HZ.out]; exact HEND4.out _ _ _ HB5.out HS6.out rfl rfl)
end
end Go.Proofs.YtmabllemjkcobaaGreatDoor
namespace Go.Proofs.YtmabllemjkcobaaGreatDoor
open Go.ChangeShapes Go.WideShapes Go.ChangeAt Go.RowKit
set_option linter.unusedVariables false
set_option linter.unusedSimpArgs false

theorem getFd_some {M : StM} {n : Int} {b : Bool} {f : FdM} (h : getFd M n b = some f) : ∃ m : Nat, n = m ∧ m < 8 ∧ M.fds m = some f ∧ f.wr = b := by
  unfold getFd at h
  split at h
  · rename_i hn
    split at h
    · rename_i g hg
      split at h
      · rename_i hw
        cases h
        exact ⟨n.toNat, by omega, by omega, hg, hw⟩
      · cases h
    · cases h
  · cases h
def StM.put (M : StM) (n : Nat) (f : Option FdM) : StM := { M with fds := fun m => if m = n then f else M.fds m }
section
variable {W w : World} {o : Mark} {i j k l p : Nat} {M : StM}
theorem StateO.put (h : StateO o i j k w p M) (hM : Marks W o w) (hk : Mk i j k l) (n : Nat) (hn : n < 8) (v : Value) (f : Option FdM) (hf : FdAt o w v f) : Step o (fun m => m = k) w o (w.setCell ⟨p, 3 + n, none⟩ v) ∧ StateO o i j k (w.setCell ⟨p, 3 + n, none⟩ v) p (M.put n f) := by
  obtain ⟨n1, n2, n3, n4, n5, n6, n7, n8, n9, n10⟩ := hk.ne
  obtain ⟨t, s, vv, h1, h2, h3, h4⟩ := h.at_
  have hz := size_set w ⟨p, 3 + n, none⟩ v
  have hst : Step o (fun m => m = k) w o (w.setCell ⟨p, 3 + n, none⟩ v) := ⟨fun _ _ => rfl, fun b hb hn => absurd (hM.new b hn).2 (by omega), (Keeps.set_ w ⟨p, 3 + n, none⟩ v).mono fun x _ hx => by
    have hx : x = p := hx
    rw [hx]; exact h.own⟩
  have h0 : ¬ (fun m => m = k) 0 := fun e => n3 e.symm
  refine ⟨hst, ⟨t, s, fun m => if m = n then v else vv m, ?_, h2.step h0 n6 hst, h3.step h0 n8 hst, fun m hm => ?_⟩, h.own, by have := h.low; omega⟩
  · have := heap_set_same (i := 3 + n) (v := v) h1
    rw [st_put t s M.now vv n hn v] at this
    exact this
  · show FdAt o _ (if m = n then v else vv m) (if m = n then f else M.fds m)
    by_cases hmn : m = n
    · rw [if_pos hmn, if_pos hmn]; exact hf.step h0 hst
    · rw [if_neg hmn, if_neg hmn]; exact (h4 m hm).step h0 hst
/-- What a call gives that answers with a number. -/
def ErRet (o : Mark) (i j k l : Nat) (w : World) (p : Nat) (q : Int × StM) (e : Ending) (w' : World) : Prop :=
  e = .returned (.int .i64 q.1) ∧ ∃ o', Step o (fun m => m = i ∨ m = j ∨ m = k ∨ m = l) w o' w' ∧ StateO o' i j k w' p q.2
def scloseM (M : StM) (x : OpM) : Int × StM := match getFd M x.fd true with
  | some f => if (sealM M.t f.id x.til).1 ≠ 0 then ((sealM M.t f.id x.til).1, { M with t := (sealM M.t f.id x.til).2 }) else (0, StM.put { M with t := (sealM M.t f.id x.til).2 } x.fd.toNat none)
  | none => match getFd M x.fd false with
    | none => (26, M)
    | some _ => (0, M.put x.fd.toNat none)
set_option maxRecDepth 100000 in
set_option maxHeartbeats 8000000 in
theorem sclose_any (hS : StateO o i j k w p M) (hM : Marks W o w) (hk : Mk i j k l) (x : OpM) (hx : OpOk x) (hfi : ∀ n f, M.fds n = some f → (Lit.int .i64 f.id).wf = true) (da : Option Addr) (dc : Nat) :
    Calls Tryz.prog 42 #[ptr p, .agg (opC x da dc)] w (ErRet o i j k l w p (scloseM M x)) := by
  have HKK := Lib.hid hk
  have HX := Lib.hid hx
  have HM := Lib.hid hM
  have HFI := Lib.hid hfi
  have hb1 : Below w.heap.size w (w.alloc (.cells (opC x da dc) 28)) := wall w _
  have hM1 := hM.step (I := fun _ => False) (fun e => e) (Step.grow hM hb1)
  have hS1 := hS.grow hM hb1
  have hop : (w.alloc (.cells (opC x da dc) 28)).heap[w.heap.size]? = some (.cells (opC x da dc) 28 (0, 0)) := (MapKept.heap_alloc w _).1
  obtain ⟨w1, hw1⟩ : ∃ w1, w1 = w.alloc (.cells (opC x da dc) 28) := ⟨_, rfl⟩
  have HF1 : Hid (Calls Tryz.prog 100 #[ptr p, .int .i64 x.fd, .bool true] (w.alloc (.cells (opC x da dc) 28)) fun e w'' => w'' = w1 ∧ FdRet o w1 M x.fd true e) := by rw [← hw1] at hS1 ⊢; exact Lib.hid (fd_any hS1 x.fd true)
  rw [← hw1] at hb1 hM1 hS1 hop
  unfold opC at HF1
  have HOP := Lib.hid hop
  have HB1 := Lib.hid hb1
  have HS1 := Lib.hid hS1
  have HM1 := Lib.hid hM1
  clear hS hM hk hx hfi hw1 hb1 hM1 hS1 hop
  unfold opC
  go_enter Tryz.func42, Tryz.ntmps42
  go_wp2_with fail
  (with_reducible refine HF1.out.mono ?_)
  rintro e w2 ⟨rfl, hfd⟩
  clear HF1
  obtain ⟨n1, n2, n3, n4, n5, n6, n7, n8, n9, n10⟩ := HKK.out.ne
  have HST1 : Hid (Step o (fun m => m = i ∨ m = j ∨ m = k ∨ m = l) w o w2) := Lib.hid (Step.grow HM.out HB1.out)
  have c3 : w2.cell? ⟨w.heap.size, 3, none⟩ = some (.int .i64 x.fd) := by simp [World.cell?, HOP.out, opC]
  rcases hfd with ⟨hg, rfl⟩ | ⟨f, fv, hg, rfl, hfv⟩
  · have HG := Lib.hid hg
    have HF2 := Lib.hid (fd_any HS1.out x.fd false)
    clear hg
    go_wp2_with fail
    (with_reducible refine HF2.out.mono ?_)
    rintro e w3 ⟨rfl, hfd2⟩
    rcases hfd2 with ⟨hg2, rfl⟩ | ⟨f, fv, hg2, rfl, hfv⟩
    · have hr : scloseM M x = (26, M) := by unfold scloseM; rw [HG.out, hg2]
      have HRR := Lib.hid hr
      clear hr hg2
      go_wp2_with fail
      go_ret
      rw [HRR.out]
      exact ⟨rfl, o, HST1.out, HS1.out⟩
    · obtain ⟨m, hm, hm8, hfm, hfw⟩ := getFd_some hg2
      have hr : scloseM M x = (0, M.put x.fd.toNat none) := by unfold scloseM; rw [HG.out, hg2]
      rw [hm] at hr
      have HRR := Lib.hid hr
      have HMD := Lib.hid (HM1.out.step (I := fun _ => False) (fun e => e) (Step.grow HM1.out (Below.refl _ _).drew))
      have HPUT := Lib.hid ((HS1.out.grow HM1.out (Below.refl _ _).drew).put HMD.out HKK.out m hm8 (.pointer none) none rfl)
      obtain ⟨t, s, v, h1, h2, h3, h4⟩ := HS1.out.at_
      obtain ⟨z0, z1, z2, z3, z4⟩ := st_cells h1
      have hzm := z3 m hm8
      have hzf := z4 (3 + m)
      rw [hm] at c3
      have i0 : (0 : Int) ≤ m := by omega
      have i1 : (m : Int) < 8 := by omega
      clear hr hg2 hm hfm hfw hfv h1 h2 h3 h4 z0 z1 z2 z3 z4
      go_wp2_with fail
      refine wp_region_noPanic ?_
      refine wp_region_L (last := 6) (S := (fun w' => w'.cell? ⟨w.heap.size, 3, none⟩ = some (.int .i64 m) ∧ w'.cell? ⟨p, 3 + m, none⟩ = some (v m) ∧ w'.frozen? ⟨p, 3 + m, none⟩ = false)) (by kernel_rfl) ?_ (fun hS => ?_)
      · exact ⟨c3, hzm, hzf⟩
      refine tkL 0 (hS := hS) (h := ?_)
      refine tkL 1 (hS := hS) (h := ?_)
      refine tkL 2 (hS := hS) (h := ?_)
      refine tkL 3 (hS := hS) (h := ?_)
      refine tkL 4 (hS := hS) (h := ?_)
      refine tkL 5 (hS := hS) (h := ?_)
      refine rdL 6 (h := fun K hK => ?_)
      go_simp
      refine hK.out _ _ (fun h => absurd rfl h) (fun hS => ?_)
      clear hS hK K
      try simp only [Act.put, List.setIfInBounds_toArray, List.set_cons_zero, List.set_cons_succ]
      refine wpAnyL_done (by kernel_rfl) ?_ _
      refine NoPanic.normal ?_
      go_wp2_with fail
      go_ret
      rw [HRR.out]
      exact ⟨rfl, o, ((HST1.out.trans (Step.grow HM1.out (Below.refl _ _).drew)).trans (HPUT.out.1.mono fun m hm => .inr (.inr (.inl hm)))), HPUT.out.2⟩
  · obtain ⟨m, hm, hm8, hfm, hfw⟩ := getFd_some hg
    have hr : scloseM M x = if (sealM M.t f.id x.til).1 ≠ 0 then ((sealM M.t f.id x.til).1, { M with t := (sealM M.t f.id x.til).2 }) else (0, StM.put { M with t := (sealM M.t f.id x.til).2 } x.fd.toNat none) := by unfold scloseM; rw [hg]
    rw [hm] at hr
    have hfid := HFI.out _ _ hfm
    obtain ⟨q, fa, fc, rfl, hq0, hq1, hq2, hq3, hq4⟩ := hfv
    obtain ⟨t, s, v, h1, h2, h3, h4⟩ := (HS1.out.grow HM1.out (Below.refl _ _).drew).at_
    have hqd : w2.drew.heap[q]? = some (.cells #[.bool f.wr, .int .i64 f.id, .slice fa f.b.length fc] 141 (0, 0)) := hq2
    have hod : w2.drew.heap[w.heap.size]? = some (.cells (opC x da dc) 28 (0, 0)) := HOP.out
    have hMd := HM1.out.step (I := fun _ => False) (fun e => e) (Step.grow HM1.out (Below.refl _ _).drew)
    have HSE := Lib.hid (om_seal h3 hMd n2 f.id x.til hfid HX.out.wt.1 HX.out.wt.2)
    have HC : Hid (∀ w' : World, w'.heap[w.heap.size]? = some (.cells (opC x da dc) 28 (0, 0)) → w'.heap[q]? = some (.cells #[.bool f.wr, .int .i64 f.id, .slice fa f.b.length fc] 141 (0, 0)) → w'.heap[p]? = some (.cells (stC t s M.now v) 66 (0, 0)) → w'.cell? ⟨p, 0, none⟩ = some (ptr t) ∧ w'.cell? ⟨q, 1, none⟩ = some (.int .i64 f.id) ∧ w'.cell? ⟨w.heap.size, 6, none⟩ = some (.int .u64 x.til)) := fun w' e1 e2 e3 => by
      refine ⟨?_, ?_, ?_⟩ <;> simp [World.cell?, e1, e2, e3, opC, stC]
    have HQ := Lib.hid (And.intro hq0 (And.intro hq1 hqd))
    have HH1 := Lib.hid h1
    have HH2 := Lib.hid h2
    have HH4 := Lib.hid h4
    have HOD := Lib.hid hod
    have HMD := Lib.hid hMd
    have hps := HS1.out.low
    have hos := (Array.getElem?_eq_some_iff.1 HOP.out).1
    have hgo : o w.heap.size = 0 := Decidable.byContradiction fun h9 => by have := (HM.out.new _ h9).2; omega
    have HGO := Lib.hid hgo
    have HRR := Lib.hid hr
    have HMI := Lib.hid hm
    obtain ⟨T2, hT2⟩ : ∃ T2, T2 = (sealM M.t f.id x.til).2 := ⟨_, rfl⟩
    obtain ⟨ae, hae⟩ : ∃ ae, ae = (sealM M.t f.id x.til).1 := ⟨_, rfl⟩
    rw [← hae, ← hT2] at HSE HRR
    have i0 : (0 : Int) ≤ m := by omega
    have i1 : (m : Int) < 8 := by omega
    clear hg hr hm hfm hfw hfid hq0 hq2 hq3 hq4 h1 h2 h3 h4 hqd hod hMd hae hT2 hgo
    go_wp2_with fail
    refine wp_region_noPanic ?_
    refine wp_region_held_drew (S := (fun w' => w'.cell? ⟨p, 0, none⟩ = some (ptr t) ∧ w'.cell? ⟨q, 1, none⟩ = some (.int .i64 f.id) ∧ w'.cell? ⟨w.heap.size, 6, none⟩ = some (.int .u64 x.til))) (by kernel_rfl) ?_ (fun hS => ?_)
    · exact HC.out _ HOD.out HQ.out.2.2 HH1.out
    refine tkH 0 (hS := hS) (h := ?_)
    refine tkH 1 (hS := hS) (h := ?_)
    refine tkH 2 (hS := hS) (h := ?_)
    refine tkH 3 (hS := hS) (h := ?_)
    refine tkH 4 (hS := hS) (h := ?_)
    refine tkH 5 (hS := hS) (h := ?_)
    refine tkH 6 (hS := hS) (h := ?_)
    refine tkH 7 (hS := hS) (h := ?_)
    refine tkH 8 (hS := hS) (h := ?_)
    refine tkH 9 (hS := hS) (h := ?_)
    refine rdH 10 (h := fun K hK => ?_)
    go_simp
    (with_reducible refine HSE.out.mono ?_)
    rintro e w4 ⟨rfl, o4, hs4, hT4⟩
    have h0j : ¬ (fun m => m = j) 0 := fun e => n2 e.symm
    have hq4 := (hs4.block HQ.out.2.1 (by rw [HQ.out.1]; exact h0j)).trans HQ.out.2.2
    have hp4 := (hs4.block hps (by rw [HS1.out.own]; exact fun e => n8 e.symm)).trans HH1.out
    have ho4 := (hs4.block (b := w.heap.size) hos (by rw [HGO.out]; exact h0j)).trans HOD.out
    have hS4 := StateO.tree (M := M) HKK.out HH1.out HH2.out HH4.out HS1.out.own hps hs4 hT4
    have hM4 := HMD.out.step h0j hs4
    have HS4 := Lib.hid hS4
    have HM4 := Lib.hid hM4
    have HST4 := Lib.hid (HST1.out.trans (Step.behind HM1.out (Below.refl _ _).drew (hs4.mono (J := fun m => m = i ∨ m = j ∨ m = k ∨ m = l) fun m hm => .inr (.inl hm))))
    have HCC := Lib.hid (HC.out _ ho4 hq4 hp4)
    have HMD4 := Lib.hid (hM4.step (I := fun _ => False) (fun e => e) (Step.grow hM4 (Below.refl _ _).drew))
    have HPUT := Lib.hid ((hS4.grow hM4 (Below.refl _ _).drew).put HMD4.out HKK.out m hm8 (.pointer none) none rfl)
    obtain ⟨t', s', v', k1, k2, k3, k4⟩ := hS4.at_
    obtain ⟨z0, z1, z2, z3, z4⟩ := st_cells k1
    have hzm := z3 m hm8
    have hzf := z4 (3 + m)
    have c3' : w4.cell? ⟨w.heap.size, 3, none⟩ = some (.int .i64 m) := by rw [← HMI.out]; simp [World.cell?, ho4, opC]
    clear hq4 hp4 ho4 hS4 hM4 hs4 hT4 k1 k2 k3 k4 z0 z1 z2 z3 z4
    go_wp2_with fail
    refine hK.out _ _ (HCC.out) (fun hS => ?_)
    clear hK K
    try simp only [Act.put, List.setIfInBounds_toArray, List.set_cons_zero, List.set_cons_succ]
    refine tkH 11 (hS := hS) (h := ?_)
    refine wpAnyH_done (by kernel_rfl) ?_ _
    refine NoPanic.normal ?_
    clear hS c3
    by_cases hz : ae = 0
    · have HZ := Lib.hid hz
      have hz2 : (ae != 0) = false := by simpa using hz
      clear hz
      go_wp2_with fail
      refine wp_region_noPanic ?_
      refine wp_region_L (last := 6) (S := (fun w' => w'.cell? ⟨w.heap.size, 3, none⟩ = some (.int .i64 m) ∧ w'.cell? ⟨p, 3 + m, none⟩ = some (v' m) ∧ w'.frozen? ⟨p, 3 + m, none⟩ = false)) (by kernel_rfl) ?_ (fun hS => ?_)
      · exact ⟨c3', hzm, hzf⟩
      refine tkL 0 (hS := hS) (h := ?_)
      refine tkL 1 (hS := hS) (h := ?_)
      refine tkL 2 (hS := hS) (h := ?_)
      refine tkL 3 (hS := hS) (h := ?_)
      refine tkL 4 (hS := hS) (h := ?_)
      refine tkL 5 (hS := hS) (h := ?_)
      refine rdL 6 (h := fun K hK => ?_)
      go_simp
      refine hK.out _ _ (fun h => absurd rfl h) (fun hS => ?_)
      clear hS hK K
      try simp only [Act.put, List.setIfInBounds_toArray, List.set_cons_zero, List.set_cons_succ]
      refine wpAnyL_done (by kernel_rfl) ?_ _
      refine NoPanic.normal ?_
      go_wp2_with fail
      go_ret
      rw [HRR.out, if_neg (fun h => h HZ.out)]
      exact ⟨rfl, o4, ((HST4.out.trans (Step.grow HM4.out (Below.refl _ _).drew)).trans (HPUT.out.1.mono fun m hm => .inr (.inr (.inl hm)))), HPUT.out.2⟩
    · have HZ := Lib.hid hz
      have hz2 : (ae != 0) = true := by simpa using hz
      clear hz
      go_wp2_with fail
      go_ret
      rw [HRR.out, if_pos HZ.out]
      exact ⟨rfl, o4, HST4.out, HS4.out⟩
end
end Go.Proofs.YtmabllemjkcobaaGreatDoor
