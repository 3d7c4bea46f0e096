/- package state: close. package state: create. package state: at, node. -/
import Derived.Test.YtpgklnhkfgbpgaaGreatDoorM31
import Derived.Test.YtpgklnhkfgbpgaaGreatDoorM17
namespace Go.Proofs.YtpgklnhkfgbpgaaGreatDoor
open Go.ChangeShapes Go.WideShapes Go.ChangeAt Go.RowKit
set_option linter.unusedVariables false
set_option linter.unusedSimpArgs false

theorem getFd_some {M : StM} {n : Int} {b : Bool} {f : FdM} (h : getFd M n b = some f) : ∃ m : Nat, n = m ∧ m < 8 ∧ M.fds m = some f ∧ f.wr = b := by
  unfold getFd at h
  split at h
  · rename_i hn
    split at h
    · rename_i g hg
      split at h
      · rename_i hw
        cases h
        exact ⟨n.toNat, by omega, by omega, hg, hw⟩
      · cases h
    · cases h
  · cases h
def StM.put (M : StM) (n : Nat) (f : Option FdM) : StM := { M with fds := fun m => if m = n then f else M.fds m }
section
variable {W w : World} {o : Mark} {i j k l p : Nat} {M : StM}
theorem StateO.put (h : StateO o i j k w p M) (hM : Marks W o w) (hk : Mk i j k l) (n : Nat) (hn : n < 8) (v : Value) (f : Option FdM) (hf : FdAt o w v f) : Step o (fun m => m = k) w o (w.setCell ⟨p, 3 + n, none⟩ v) ∧ StateO o i j k (w.setCell ⟨p, 3 + n, none⟩ v) p (M.put n f) := by
  obtain ⟨n1, n2, n3, n4, n5, n6, n7, n8, n9, n10⟩ := hk.ne
  obtain ⟨t, s, vv, h1, h2, h3, h4⟩ := h.at_
  have hz := size_set w ⟨p, 3 + n, none⟩ v
  have hst : Step o (fun m => m = k) w o (w.setCell ⟨p, 3 + n, none⟩ v) := ⟨fun _ _ => rfl, fun b hb hn => absurd (hM.new b hn).2 (by omega), (Keeps.set_ w ⟨p, 3 + n, none⟩ v).mono fun x _ hx => by
    have hx : x = p := hx
    rw [hx]; exact h.own⟩
  have h0 : ¬ (fun m => m = k) 0 := fun e => n3 e.symm
  refine ⟨hst, ⟨t, s, fun m => if m = n then v else vv m, ?_, h2.step h0 n6 hst, h3.step h0 n8 hst, fun m hm => ?_⟩, h.own, by have := h.low; omega⟩
  · have := heap_set_same (i := 3 + n) (v := v) h1
    rw [st_put t s M.now vv n hn v] at this
    exact this
  · show FdAt o _ (if m = n then v else vv m) (if m = n then f else M.fds m)
    by_cases hmn : m = n
    · rw [if_pos hmn, if_pos hmn]; exact hf.step h0 hst
    · rw [if_neg hmn, if_neg hmn]; exact (h4 m hm).step h0 hst
/-- What a call gives that answers with a number. -/
def ErRet (o : Mark) (i j k l : Nat) (w : World) (p : Nat) (q : Int × StM) (e : Ending) (w' : World) : Prop :=
  e = .returned (.int .i64 q.1) ∧ ∃ o', Step o (fun m => m = i ∨ m = j ∨ m = k ∨ m = l) w o' w' ∧ StateO o' i j k w' p q.2
def scloseM (M : StM) (x : OpM) : Int × StM := match getFd M x.fd true with
  | some f => if (sealM M.t f.id x.til).1 ≠ 0 then ((sealM M.t f.id x.til).1, { M with t := (sealM M.t f.id x.til).2 }) else (0, StM.put { M with t := (sealM M.t f.id x.til).2 } x.fd.toNat none)
  | none => match getFd M x.fd false with
    | none => (26, M)
    | some _ => (0, M.put x.fd.toNat none)
set_option maxRecDepth 100000 in
set_option maxHeartbeats 8000000 in
theorem sclose_any (hS : StateO o i j k w p M) (hM : Marks W o w) (hk : Mk i j k l) (x : OpM) (hx : OpOk x) (hfi : ∀ n f, M.fds n = some f → (Lit.int .i64 f.id).wf = true) (da : Option Addr) (dc : Nat) :
    Calls Tryz.prog 42 #[ptr p, .agg (opC x da dc)] w (ErRet o i j k l w p (scloseM M x)) := by
  have HKK := Lib.hid hk
  have HX := Lib.hid hx
  have HM := Lib.hid hM
  have HFI := Lib.hid hfi
  have hb1 : Below w.heap.size w (w.alloc (.cells (opC x da dc) 36)) := wall w _
  have hM1 := hM.step (I := fun _ => False) (fun e => e) (Step.grow hM hb1)
  have hS1 := hS.grow hM hb1
  have hop : (w.alloc (.cells (opC x da dc) 36)).heap[w.heap.size]? = some (.cells (opC x da dc) 36 (0, 0)) := (MapKept.heap_alloc w _).1
  obtain ⟨w1, hw1⟩ : ∃ w1, w1 = w.alloc (.cells (opC x da dc) 36) := ⟨_, rfl⟩
  have HF1 : Hid (Calls Tryz.prog 83 #[ptr p, .int .i64 x.fd, .bool true] (w.alloc (.cells (opC x da dc) 36)) fun e w'' => w'' = w1 ∧ FdRet o w1 M x.fd true e) := by rw [← hw1] at hS1 ⊢; exact Lib.hid (fd_any hS1 x.fd true)
  rw [← hw1] at hb1 hM1 hS1 hop
  unfold opC at HF1
  have HOP := Lib.hid hop
  have HB1 := Lib.hid hb1
  have HS1 := Lib.hid hS1
  have HM1 := Lib.hid hM1
  clear hS hM hk hx hfi hw1 hb1 hM1 hS1 hop
  unfold opC
  go_enter Tryz.func42, Tryz.ntmps42
  go_wp2_with fail
  (with_reducible refine HF1.out.mono ?_)
  rintro e w2 ⟨rfl, hfd⟩
  clear HF1
  obtain ⟨n1, n2, n3, n4, n5, n6, n7, n8, n9, n10⟩ := HKK.out.ne
  have HST1 : Hid (Step o (fun m => m = i ∨ m = j ∨ m = k ∨ m = l) w o w2) := Lib.hid (Step.grow HM.out HB1.out)
  have c3 : w2.cell? ⟨w.heap.size, 3, none⟩ = some (.int .i64 x.fd) := by simp [World.cell?, HOP.out, opC]
  rcases hfd with ⟨hg, rfl⟩ | ⟨f, fv, hg, rfl, hfv⟩
  · have HG := Lib.hid hg
    have HF2 := Lib.hid (fd_any HS1.out x.fd false)
    clear hg
    go_wp2_with fail
    (with_reducible refine HF2.out.mono ?_)
    rintro e w3 ⟨rfl, hfd2⟩
    rcases hfd2 with ⟨hg2, rfl⟩ | ⟨f, fv, hg2, rfl, hfv⟩
    · have hr : scloseM M x = (26, M) := by unfold scloseM; rw [HG.out, hg2]
      have HRR := Lib.hid hr
      clear hr hg2
      go_wp2_with fail
      go_ret
      rw [HRR.out]
      exact ⟨rfl, o, HST1.out, HS1.out⟩
    · obtain ⟨m, hm, hm8, hfm, hfw⟩ := getFd_some hg2
      have hr : scloseM M x = (0, M.put x.fd.toNat none) := by unfold scloseM; rw [HG.out, hg2]
      rw [hm] at hr
      have HRR := Lib.hid hr
      have HMD := Lib.hid (HM1.out.step (I := fun _ => False) (fun e => e) (Step.grow HM1.out (Below.refl _ _).drew))
      have HPUT := Lib.hid ((HS1.out.grow HM1.out (Below.refl _ _).drew).put HMD.out HKK.out m hm8 (.pointer none) none rfl)
      obtain ⟨t, s, v, h1, h2, h3, h4⟩ := HS1.out.at_
      obtain ⟨z0, z1, z2, z3, z4⟩ := st_cells h1
      have hzm := z3 m hm8
      have hzf := z4 (3 + m)
      rw [hm] at c3
      have i0 : (0 : Int) ≤ m := by omega
      have i1 : (m : Int) < 8 := by omega
      clear hr hg2 hm hfm hfw hfv h1 h2 h3 h4 z0 z1 z2 z3 z4
      go_wp2_with fail
      refine wp_region_noPanic ?_
      refine wp_region_L (last := 6) (S := (fun w' => w'.cell? ⟨w.heap.size, 3, none⟩ = some (.int .i64 m) ∧ w'.cell? ⟨p, 3 + m, none⟩ = some (v m) ∧ w'.frozen? ⟨p, 3 + m, none⟩ = false)) (by kernel_rfl) ?_ (fun hS => ?_)
      · exact ⟨c3, hzm, hzf⟩
      refine wpAnyL_take (i := 0) (oi := ?oi1) (v := ?v1) ?hi1 (by kernel_rfl) (by kernel_rfl) (by kernel_rfl) (by kernel_rfl) (by kernel_rfl) ?hq1 (Or.inl ⟨?hw1, ?hy1⟩) hS ?rest1
      case hi1 => simp only [List.getElem?_toArray, List.getElem?_cons_succ, List.getElem?_cons_zero]; rfl
      case hq1 => exact fun _ _ _ h => h
      case hw1 => rfl
      case hy1 => intro w hSw; (try dsimp only at hSw); go_simp; (try with_reducible rfl)
      try simp only [Act.put, List.setIfInBounds_toArray, List.set_cons_zero, List.set_cons_succ]
      refine wpAnyL_take (i := 1) (oi := ?oi2) (v := ?v2) ?hi2 (by kernel_rfl) (by kernel_rfl) (by kernel_rfl) (by kernel_rfl) (by kernel_rfl) ?hq2 (Or.inl ⟨?hw2, ?hy2⟩) hS ?rest2
      case hi2 => simp only [List.getElem?_toArray, List.getElem?_cons_succ, List.getElem?_cons_zero]; rfl
      case hq2 => exact fun _ _ _ h => h
      case hw2 => rfl
      case hy2 => intro w hSw; (try dsimp only at hSw); go_simp; (try with_reducible rfl)
      try simp only [Act.put, List.setIfInBounds_toArray, List.set_cons_zero, List.set_cons_succ]
      refine wpAnyL_take (i := 2) (oi := ?oi3) (v := ?v3) ?hi3 (by kernel_rfl) (by kernel_rfl) (by kernel_rfl) (by kernel_rfl) (by kernel_rfl) ?hq3 (Or.inl ⟨?hw3, ?hy3⟩) hS ?rest3
      case hi3 => simp only [List.getElem?_toArray, List.getElem?_cons_succ, List.getElem?_cons_zero]; rfl
      case hq3 => exact fun _ _ _ h => h
      case hw3 => rfl
      case hy3 => intro w hSw; (try dsimp only at hSw); go_simp; (try with_reducible rfl)
      try simp only [Act.put, List.setIfInBounds_toArray, List.set_cons_zero, List.set_cons_succ]
      refine wpAnyL_take (i := 3) (oi := ?oi4) (v := ?v4) ?hi4 (by kernel_rfl) (by kernel_rfl) (by kernel_rfl) (by kernel_rfl) (by kernel_rfl) ?hq4 (Or.inl ⟨?hw4, ?hy4⟩) hS ?rest4
      case hi4 => simp only [List.getElem?_toArray, List.getElem?_cons_succ, List.getElem?_cons_zero]; rfl
      case hq4 => exact fun _ _ _ h => h
      case hw4 => rfl
      case hy4 => intro w hSw; (try dsimp only at hSw); go_simp; (try with_reducible rfl)
      try simp only [Act.put, List.setIfInBounds_toArray, List.set_cons_zero, List.set_cons_succ]
      refine wpAnyL_take (i := 4) (oi := ?oi5) (v := ?v5) ?hi5 (by kernel_rfl) (by kernel_rfl) (by kernel_rfl) (by kernel_rfl) (by kernel_rfl) ?hq5 (Or.inl ⟨?hw5, ?hy5⟩) hS ?rest5
      case hi5 => simp only [List.getElem?_toArray, List.getElem?_cons_succ, List.getElem?_cons_zero]; rfl
      case hq5 => exact fun _ _ _ h => h
      case hw5 => rfl
      case hy5 => intro w hSw; (try dsimp only at hSw); go_simp; (try with_reducible rfl)
      try simp only [Act.put, List.setIfInBounds_toArray, List.set_cons_zero, List.set_cons_succ]
      refine wpAnyL_take (i := 5) (oi := ?oi6) (v := ?v6) ?hi6 (by kernel_rfl) (by kernel_rfl) (by kernel_rfl) (by kernel_rfl) (by kernel_rfl) ?hq6 (Or.inl ⟨?hw6, ?hy6⟩) hS ?rest6
      case hi6 => simp only [List.getElem?_toArray, List.getElem?_cons_succ, List.getElem?_cons_zero]; rfl
      case hq6 => exact fun _ _ _ h => h
      case hw6 => rfl
      case hy6 => intro w hSw; (try dsimp only at hSw); go_simp; (try with_reducible rfl)
      try simp only [Act.put, List.setIfInBounds_toArray, List.set_cons_zero, List.set_cons_succ]
      refine wpAnyL_ready (rs := [6]) (by kernel_rfl) (by simp) ?_
      refine AllReadyL.cons (o := ?o7) ?ho7 (fun K hK => ?_) AllReadyL.nil
      case ho7 => simp only [List.getElem?_toArray, List.getElem?_cons_succ, List.getElem?_cons_zero]; rfl
      go_simp
      refine hK.out _ _ (fun h => absurd rfl h) (fun hS => ?_)
      clear hS hK K
      try simp only [Act.put, List.setIfInBounds_toArray, List.set_cons_zero, List.set_cons_succ]
      refine wpAnyL_done (by kernel_rfl) ?_ _
      refine NoPanic.normal ?_
      go_wp2_with fail
      go_ret
      rw [HRR.out]
      exact ⟨rfl, o, ((HST1.out.trans (Step.grow HM1.out (Below.refl _ _).drew)).trans (HPUT.out.1.mono fun m hm => .inr (.inr (.inl hm)))), HPUT.out.2⟩
  · obtain ⟨m, hm, hm8, hfm, hfw⟩ := getFd_some hg
    have hr : scloseM M x = if (sealM M.t f.id x.til).1 ≠ 0 then ((sealM M.t f.id x.til).1, { M with t := (sealM M.t f.id x.til).2 }) else (0, StM.put { M with t := (sealM M.t f.id x.til).2 } x.fd.toNat none) := by unfold scloseM; rw [hg]
    rw [hm] at hr
    have hfid := HFI.out _ _ hfm
    obtain ⟨q, fa, fc, rfl, hq0, hq1, hq2, hq3, hq4⟩ := hfv
    obtain ⟨t, s, v, h1, h2, h3, h4⟩ := (HS1.out.grow HM1.out (Below.refl _ _).drew).at_
    have hqd : w2.drew.heap[q]? = some (.cells #[.bool f.wr, .int .i64 f.id, .slice fa f.b.length fc] 128 (0, 0)) := hq2
    have hod : w2.drew.heap[w.heap.size]? = some (.cells (opC x da dc) 36 (0, 0)) := HOP.out
    have hMd := HM1.out.step (I := fun _ => False) (fun e => e) (Step.grow HM1.out (Below.refl _ _).drew)
    have HSE := Lib.hid (om_seal h3 hMd n2 f.id x.til hfid HX.out.wt.1 HX.out.wt.2)
    have HC : Hid (∀ w' : World, w'.heap[w.heap.size]? = some (.cells (opC x da dc) 36 (0, 0)) → w'.heap[q]? = some (.cells #[.bool f.wr, .int .i64 f.id, .slice fa f.b.length fc] 128 (0, 0)) → w'.heap[p]? = some (.cells (stC t s M.now v) 70 (0, 0)) → w'.cell? ⟨p, 0, none⟩ = some (ptr t) ∧ w'.cell? ⟨q, 1, none⟩ = some (.int .i64 f.id) ∧ w'.cell? ⟨w.heap.size, 6, none⟩ = some (.int .u64 x.til)) := fun w' e1 e2 e3 => by
      refine ⟨?_, ?_, ?_⟩ <;> simp [World.cell?, e1, e2, e3, opC, stC]
    have HQ := Lib.hid (And.intro hq0 (And.intro hq1 hqd))
    have HH1 := Lib.hid h1
    have HH2 := Lib.hid h2
    have HH4 := Lib.hid h4
    have HOD := Lib.hid hod
    have HMD := Lib.hid hMd
    have hps := HS1.out.low
    have hos := (Array.getElem?_eq_some_iff.1 HOP.out).1
    have hgo : o w.heap.size = 0 := Decidable.byContradiction fun h9 => by have := (HM.out.new _ h9).2; omega
    have HGO := Lib.hid hgo
    have HRR := Lib.hid hr
    have HMI := Lib.hid hm
    obtain ⟨T2, hT2⟩ : ∃ T2, T2 = (sealM M.t f.id x.til).2 := ⟨_, rfl⟩
    obtain ⟨ae, hae⟩ : ∃ ae, ae = (sealM M.t f.id x.til).1 := ⟨_, rfl⟩
    rw [← hae, ← hT2] at HSE HRR
    have i0 : (0 : Int) ≤ m := by omega
    have i1 : (m : Int) < 8 := by omega
    clear hg hr hm hfm hfw hfid hq0 hq2 hq3 hq4 h1 h2 h3 h4 hqd hod hMd hae hT2 hgo
    go_wp2_with fail
    refine wp_region_noPanic ?_
    refine wp_region_held_drew (S := (fun w' => w'.cell? ⟨p, 0, none⟩ = some (ptr t) ∧ w'.cell? ⟨q, 1, none⟩ = some (.int .i64 f.id) ∧ w'.cell? ⟨w.heap.size, 6, none⟩ = some (.int .u64 x.til))) (by kernel_rfl) ?_ (fun hS => ?_)
    · exact HC.out _ HOD.out HQ.out.2.2 HH1.out
    refine wpAnyH_take (i := 0) (oi := ?oi8) (v := ?v8) ?hi8 (by kernel_rfl) (by kernel_rfl) (by kernel_rfl) ?hq8 (Or.inl ⟨?hw8, ?hy8⟩) hS ?rest8
    case hi8 => simp only [List.getElem?_toArray, List.getElem?_cons_succ, List.getElem?_cons_zero]; rfl
    case hq8 => exact fun _ _ _ h => h
    case hw8 => rfl
    case hy8 => intro w hSw; (try dsimp only at hSw); go_simp; (try with_reducible rfl)
    try simp only [Act.put, List.setIfInBounds_toArray, List.set_cons_zero, List.set_cons_succ]
    refine wpAnyH_take (i := 1) (oi := ?oi9) (v := ?v9) ?hi9 (by kernel_rfl) (by kernel_rfl) (by kernel_rfl) ?hq9 (Or.inl ⟨?hw9, ?hy9⟩) hS ?rest9
    case hi9 => simp only [List.getElem?_toArray, List.getElem?_cons_succ, List.getElem?_cons_zero]; rfl
    case hq9 => exact fun _ _ _ h => h
    case hw9 => rfl
    case hy9 => intro w hSw; (try dsimp only at hSw); go_simp; (try with_reducible rfl)
    try simp only [Act.put, List.setIfInBounds_toArray, List.set_cons_zero, List.set_cons_succ]
    refine wpAnyH_take (i := 2) (oi := ?oi10) (v := ?v10) ?hi10 (by kernel_rfl) (by kernel_rfl) (by kernel_rfl) ?hq10 (Or.inl ⟨?hw10, ?hy10⟩) hS ?rest10
    case hi10 => simp only [List.getElem?_toArray, List.getElem?_cons_succ, List.getElem?_cons_zero]; rfl
    case hq10 => exact fun _ _ _ h => h
    case hw10 => rfl
    case hy10 => intro w hSw; (try dsimp only at hSw); go_simp; (try with_reducible rfl)
    try simp only [Act.put, List.setIfInBounds_toArray, List.set_cons_zero, List.set_cons_succ]
    refine wpAnyH_take (i := 3) (oi := ?oi11) (v := ?v11) ?hi11 (by kernel_rfl) (by kernel_rfl) (by kernel_rfl) ?hq11 (Or.inl ⟨?hw11, ?hy11⟩) hS ?rest11
    case hi11 => simp only [List.getElem?_toArray, List.getElem?_cons_succ, List.getElem?_cons_zero]; rfl
    case hq11 => exact fun _ _ _ h => h
    case hw11 => rfl
    case hy11 => intro w hSw; (try dsimp only at hSw); go_simp; (try with_reducible rfl)
    try simp only [Act.put, List.setIfInBounds_toArray, List.set_cons_zero, List.set_cons_succ]
    refine wpAnyH_take (i := 4) (oi := ?oi12) (v := ?v12) ?hi12 (by kernel_rfl) (by kernel_rfl) (by kernel_rfl) ?hq12 (Or.inl ⟨?hw12, ?hy12⟩) hS ?rest12
    case hi12 => simp only [List.getElem?_toArray, List.getElem?_cons_succ, List.getElem?_cons_zero]; rfl
    case hq12 => exact fun _ _ _ h => h
    case hw12 => rfl
    case hy12 => intro w hSw; (try dsimp only at hSw); go_simp; (try with_reducible rfl)
    try simp only [Act.put, List.setIfInBounds_toArray, List.set_cons_zero, List.set_cons_succ]
    refine wpAnyH_take (i := 5) (oi := ?oi13) (v := ?v13) ?hi13 (by kernel_rfl) (by kernel_rfl) (by kernel_rfl) ?hq13 (Or.inl ⟨?hw13, ?hy13⟩) hS ?rest13
    case hi13 => simp only [List.getElem?_toArray, List.getElem?_cons_succ, List.getElem?_cons_zero]; rfl
    case hq13 => exact fun _ _ _ h => h
    case hw13 => rfl
    case hy13 => intro w hSw; (try dsimp only at hSw); go_simp; (try with_reducible rfl)
    try simp only [Act.put, List.setIfInBounds_toArray, List.set_cons_zero, List.set_cons_succ]
    refine wpAnyH_take (i := 6) (oi := ?oi14) (v := ?v14) ?hi14 (by kernel_rfl) (by kernel_rfl) (by kernel_rfl) ?hq14 (Or.inl ⟨?hw14, ?hy14⟩) hS ?rest14
    case hi14 => simp only [List.getElem?_toArray, List.getElem?_cons_succ, List.getElem?_cons_zero]; rfl
    case hq14 => exact fun _ _ _ h => h
    case hw14 => rfl
    case hy14 => intro w hSw; (try dsimp only at hSw); go_simp; (try with_reducible rfl)
    try simp only [Act.put, List.setIfInBounds_toArray, List.set_cons_zero, List.set_cons_succ]
    refine wpAnyH_take (i := 7) (oi := ?oi15) (v := ?v15) ?hi15 (by kernel_rfl) (by kernel_rfl) (by kernel_rfl) ?hq15 (Or.inl ⟨?hw15, ?hy15⟩) hS ?rest15
    case hi15 => simp only [List.getElem?_toArray, List.getElem?_cons_succ, List.getElem?_cons_zero]; rfl
    case hq15 => exact fun _ _ _ h => h
    case hw15 => rfl
    case hy15 => intro w hSw; (try dsimp only at hSw); go_simp; (try with_reducible rfl)
    try simp only [Act.put, List.setIfInBounds_toArray, List.set_cons_zero, List.set_cons_succ]
    refine wpAnyH_take (i := 8) (oi := ?oi16) (v := ?v16) ?hi16 (by kernel_rfl) (by kernel_rfl) (by kernel_rfl) ?hq16 (Or.inl ⟨?hw16, ?hy16⟩) hS ?rest16
    case hi16 => simp only [List.getElem?_toArray, List.getElem?_cons_succ, List.getElem?_cons_zero]; rfl
    case hq16 => exact fun _ _ _ h => h
    case hw16 => rfl
    case hy16 => intro w hSw; (try dsimp only at hSw); go_simp; (try with_reducible rfl)
    try simp only [Act.put, List.setIfInBounds_toArray, List.set_cons_zero, List.set_cons_succ]
    refine wpAnyH_take (i := 9) (oi := ?oi17) (v := ?v17) ?hi17 (by kernel_rfl) (by kernel_rfl) (by kernel_rfl) ?hq17 (Or.inl ⟨?hw17, ?hy17⟩) hS ?rest17
    case hi17 => simp only [List.getElem?_toArray, List.getElem?_cons_succ, List.getElem?_cons_zero]; rfl
    case hq17 => exact fun _ _ _ h => h
    case hw17 => rfl
    case hy17 => intro w hSw; (try dsimp only at hSw); go_simp; (try with_reducible rfl)
    try simp only [Act.put, List.setIfInBounds_toArray, List.set_cons_zero, List.set_cons_succ]
    refine wpAnyH_ready (rs := [10]) (by kernel_rfl) (by simp) ?_
    refine AllReadyH.cons (o := ?o18) ?ho18 (fun K hK => ?_) AllReadyH.nil
    case ho18 => simp only [List.getElem?_toArray, List.getElem?_cons_succ, List.getElem?_cons_zero]; rfl
    go_simp
    (with_reducible refine HSE.out.mono ?_)
    rintro e w4 ⟨rfl, o4, hs4, hT4⟩
    have h0j : ¬ (fun m => m = j) 0 := fun e => n2 e.symm
    have hq4 := (hs4.block HQ.out.2.1 (by rw [HQ.out.1]; exact h0j)).trans HQ.out.2.2
    have hp4 := (hs4.block hps (by rw [HS1.out.own]; exact fun e => n8 e.symm)).trans HH1.out
    have ho4 := (hs4.block (b := w.heap.size) hos (by rw [HGO.out]; exact h0j)).trans HOD.out
    have hS4 := StateO.tree (M := M) HKK.out HH1.out HH2.out HH4.out HS1.out.own hps hs4 hT4
    have hM4 := HMD.out.step h0j hs4
    have HS4 := Lib.hid hS4
    have HM4 := Lib.hid hM4
    have HST4 := Lib.hid (HST1.out.trans (Step.behind HM1.out (Below.refl _ _).drew (hs4.mono (J := fun m => m = i ∨ m = j ∨ m = k ∨ m = l) fun m hm => .inr (.inl hm))))
    have HCC := Lib.hid (HC.out _ ho4 hq4 hp4)
    have HMD4 := Lib.hid (hM4.step (I := fun _ => False) (fun e => e) (Step.grow hM4 (Below.refl _ _).drew))
    have HPUT := Lib.hid ((hS4.grow hM4 (Below.refl _ _).drew).put HMD4.out HKK.out m hm8 (.pointer none) none rfl)
    obtain ⟨t', s', v', k1, k2, k3, k4⟩ := hS4.at_
    obtain ⟨z0, z1, z2, z3, z4⟩ := st_cells k1
    have hzm := z3 m hm8
    have hzf := z4 (3 + m)
    have c3' : w4.cell? ⟨w.heap.size, 3, none⟩ = some (.int .i64 m) := by rw [← HMI.out]; simp [World.cell?, ho4, opC]
    clear hq4 hp4 ho4 hS4 hM4 hs4 hT4 k1 k2 k3 k4 z0 z1 z2 z3 z4
    go_wp2_with fail
    refine hK.out _ _ (HCC.out) (fun hS => ?_)
    clear hK K
    try simp only [Act.put, List.setIfInBounds_toArray, List.set_cons_zero, List.set_cons_succ]
    refine wpAnyH_take (i := 11) (oi := ?oi19) (v := ?v19) ?hi19 (by kernel_rfl) (by kernel_rfl) (by kernel_rfl) ?hq19 (Or.inl ⟨?hw19, ?hy19⟩) hS ?rest19
    case hi19 => simp only [List.getElem?_toArray, List.getElem?_cons_succ, List.getElem?_cons_zero]; rfl
    case hq19 => exact fun _ _ _ h => h
    case hw19 => rfl
    case hy19 => intro w hSw; (try dsimp only at hSw); go_simp; (try with_reducible rfl)
    try simp only [Act.put, List.setIfInBounds_toArray, List.set_cons_zero, List.set_cons_succ]
    refine wpAnyH_done (by kernel_rfl) ?_ _
    refine NoPanic.normal ?_
    clear hS c3
    by_cases hz : ae = 0
    · have HZ := Lib.hid hz
      have hz2 : (ae != 0) = false := by simpa using hz
      clear hz
      go_wp2_with fail
      refine wp_region_noPanic ?_
      refine wp_region_L (last := 6) (S := (fun w' => w'.cell? ⟨w.heap.size, 3, none⟩ = some (.int .i64 m) ∧ w'.cell? ⟨p, 3 + m, none⟩ = some (v' m) ∧ w'.frozen? ⟨p, 3 + m, none⟩ = false)) (by kernel_rfl) ?_ (fun hS => ?_)
      · exact ⟨c3', hzm, hzf⟩
      refine wpAnyL_take (i := 0) (oi := ?oi20) (v := ?v20) ?hi20 (by kernel_rfl) (by kernel_rfl) (by kernel_rfl) (by kernel_rfl) (by kernel_rfl) ?hq20 (Or.inl ⟨?hw20, ?hy20⟩) hS ?rest20
      case hi20 => simp only [List.getElem?_toArray, List.getElem?_cons_succ, List.getElem?_cons_zero]; rfl
      case hq20 => exact fun _ _ _ h => h
      case hw20 => rfl
      case hy20 => intro w hSw; (try dsimp only at hSw); go_simp; (try with_reducible rfl)
      try simp only [Act.put, List.setIfInBounds_toArray, List.set_cons_zero, List.set_cons_succ]
      refine wpAnyL_take (i := 1) (oi := ?oi21) (v := ?v21) ?hi21 (by kernel_rfl) (by kernel_rfl) (by kernel_rfl) (by kernel_rfl) (by kernel_rfl) ?hq21 (Or.inl ⟨?hw21, ?hy21⟩) hS ?rest21
      case hi21 => simp only [List.getElem?_toArray, List.getElem?_cons_succ, List.getElem?_cons_zero]; rfl
      case hq21 => exact fun _ _ _ h => h
      case hw21 => rfl
      case hy21 => intro w hSw; (try dsimp only at hSw); go_simp; (try with_reducible rfl)
      try simp only [Act.put, List.setIfInBounds_toArray, List.set_cons_zero, List.set_cons_succ]
      refine wpAnyL_take (i := 2) (oi := ?oi22) (v := ?v22) ?hi22 (by kernel_rfl) (by kernel_rfl) (by kernel_rfl) (by kernel_rfl) (by kernel_rfl) ?hq22 (Or.inl ⟨?hw22, ?hy22⟩) hS ?rest22
      case hi22 => simp only [List.getElem?_toArray, List.getElem?_cons_succ, List.getElem?_cons_zero]; rfl
      case hq22 => exact fun _ _ _ h => h
      case hw22 => rfl
      case hy22 => intro w hSw; (try dsimp only at hSw); go_simp; (try with_reducible rfl)
      try simp only [Act.put, List.setIfInBounds_toArray, List.set_cons_zero, List.set_cons_succ]
      refine wpAnyL_take (i := 3) (oi := ?oi23) (v := ?v23) ?hi23 (by kernel_rfl) (by kernel_rfl) (by kernel_rfl) (by kernel_rfl) (by kernel_rfl) ?hq23 (Or.inl ⟨?hw23, ?hy23⟩) hS ?rest23
      case hi23 => simp only [List.getElem?_toArray, List.getElem?_cons_succ, List.getElem?_cons_zero]; rfl
      case hq23 => exact fun _ _ _ h => h
      case hw23 => rfl
      case hy23 => intro w hSw; (try dsimp only at hSw); go_simp; (try with_reducible rfl)
      try simp only [Act.put, List.setIfInBounds_toArray, List.set_cons_zero, List.set_cons_succ]
      refine wpAnyL_take (i := 4) (oi := ?oi24) (v := ?v24) ?hi24 (by kernel_rfl) (by kernel_rfl) (by kernel_rfl) (by kernel_rfl) (by kernel_rfl) ?hq24 (Or.inl ⟨?hw24, ?hy24⟩) hS ?rest24
      case hi24 => simp only [List.getElem?_toArray, List.getElem?_cons_succ, List.getElem?_cons_zero]; rfl
      case hq24 => exact fun _ _ _ h => h
      case hw24 => rfl
      case hy24 => intro w hSw; (try dsimp only at hSw); go_simp; (try with_reducible rfl)
      try simp only [Act.put, List.setIfInBounds_toArray, List.set_cons_zero, List.set_cons_succ]
      refine wpAnyL_take (i := 5) (oi := ?oi25) (v := ?v25) ?hi25 (by kernel_rfl) (by kernel_rfl) (by kernel_rfl) (by kernel_rfl) (by kernel_rfl) ?hq25 (Or.inl ⟨?hw25, ?hy25⟩) hS ?rest25
      case hi25 => simp only [List.getElem?_toArray, List.getElem?_cons_succ, List.getElem?_cons_zero]; rfl
      case hq25 => exact fun _ _ _ h => h
      case hw25 => rfl
      case hy25 => intro w hSw; (try dsimp only at hSw); go_simp; (try with_reducible rfl)
      try simp only [Act.put, List.setIfInBounds_toArray, List.set_cons_zero, List.set_cons_succ]
      refine wpAnyL_ready (rs := [6]) (by kernel_rfl) (by simp) ?_
      refine AllReadyL.cons (o := ?o26) ?ho26 (fun K hK => ?_) AllReadyL.nil
      case ho26 => simp only [List.getElem?_toArray, List.getElem?_cons_succ, List.getElem?_cons_zero]; rfl
      go_simp
      refine hK.out _ _ (fun h => absurd rfl h) (fun hS => ?_)
      clear hS hK K
      try simp only [Act.put, List.setIfInBounds_toArray, List.set_cons_zero, List.set_cons_succ]
      refine wpAnyL_done (by kernel_rfl) ?_ _
      refine NoPanic.normal ?_
      go_wp2_with fail
      go_ret
      rw [HRR.out, if_neg (fun h => h HZ.out)]
      exact ⟨rfl, o4, ((HST4.out.trans (Step.grow HM4.out (Below.refl _ _).drew)).trans (HPUT.out.1.mono fun m hm => .inr (.inr (.inl hm)))), HPUT.out.2⟩
    · have HZ := Lib.hid hz
      have hz2 : (ae != 0) = true := by simpa using hz
      clear hz
      go_wp2_with fail
      go_ret
      rw [HRR.out, if_pos HZ.out]
      exact ⟨rfl, o4, HST4.out, HS4.out⟩
end
end Go.Proofs.YtpgklnhkfgbpgaaGreatDoor
namespace Go.Proofs.YtpgklnhkfgbpgaaGreatDoor
open Go.ChangeShapes Go.WideShapes Go.ChangeAt Go.RowKit
set_option linter.unusedVariables false
set_option linter.unusedSimpArgs false

def freeI (M : StM) : Int := match (List.range 8).find? (fun n => (M.fds n).isNone) with | some n => n | none => -1
theorem FreeR.eq {M : StM} {v : Int} (h : FreeR M v) : v = freeI M := by
  unfold freeI
  rcases h with ⟨rfl, h⟩ | ⟨n, hn, rfl, h1, h2⟩
  · have : (List.range 8).find? (fun n => (M.fds n).isNone) = none := by
      rw [List.find?_eq_none]
      intro n hn
      rw [List.mem_range] at hn
      have := h n hn
      cases hf : M.fds n with
      | none => exact absurd hf this
      | some f => simp
    rw [this]
  · have : (List.range 8).find? (fun n => (M.fds n).isNone) = some n := by
      have e : List.range 8 = List.range n ++ n :: (List.range (8 - (n + 1))).map (· + (n + 1)) := by
        rcases (show n = 0 ∨ n = 1 ∨ n = 2 ∨ n = 3 ∨ n = 4 ∨ n = 5 ∨ n = 6 ∨ n = 7 by omega) with rfl | rfl | rfl | rfl | rfl | rfl | rfl | rfl <;> rfl
      rw [e, List.find?_append]
      have e1 : (List.range n).find? (fun n => (M.fds n).isNone) = none := by
        rw [List.find?_eq_none]
        intro m hm
        rw [List.mem_range] at hm
        have := h2 m hm
        cases hf : M.fds m with
        | none => exact absurd hf this
        | some f => simp
      rw [e1, List.find?_cons_of_pos (by rw [h1]; rfl)]
      rfl
    rw [this]
def screateM (M : StM) (ls : List Nm) : ReM × StM :=
  if freeI M < 0 then (noM 25, M) else
  if (makeM M.t ls 1).1.2 ≠ 0 then (noM (makeM M.t ls 1).1.2, { M with t := (makeM M.t ls 1).2 }) else
  (⟨0, freeI M, [], [], none⟩, StM.put { M with t := (makeM M.t ls 1).2 } (freeI M).toNat (some ⟨true, (makeM M.t ls 1).1.1, []⟩))
section
variable {W w : World} {o : Mark} {i j k l p : Nat} {M : StM}
set_option maxRecDepth 100000 in
set_option maxHeartbeats 8000000 in
theorem screate_any {S : Nat → Prop} (hS : StateO o i j k w p M) (hM : Marks W o w) (hk : Mk i j k l) (hok : OkM M.t) (a : Option Addr) (n c : Nat) (ls : List Nm) (hls : StrsAt S w a n (ls.map strOf)) (hnc : n ≤ c) (hn8 : n ≤ 1000000) :
    Calls Tryz.prog 38 #[ptr p, .slice a n c] w (StRet o i j k l w p (screateM M ls)) := by
  have HKK := Lib.hid hk
  have HOK := Lib.hid hok
  have HM := Lib.hid hM
  have HS := Lib.hid hS
  have HLS := Lib.hid hls
  obtain ⟨w2, hw2⟩ : ∃ w2, w2 = w.alloc (.cells (reC (noM 0) none none 0 0) 33) := ⟨_, rfl⟩
  have hb2 : Below w.heap.size w w2 := by rw [hw2]; exact wall w _
  have hre : w2.heap[w.heap.size]? = some (.cells (reC (noM 0) none none 0 0) 33 (0, 0)) := by rw [hw2]; exact (MapKept.heap_alloc w _).1
  obtain ⟨n1, n2, n3, n4, n5, n6, n7, n8, n9, n10⟩ := hk.ne
  obtain ⟨o1, hs1, hl1, hl2⟩ := mark_new HM.out l (fun b => b = w.heap.size) (w' := w2) (fun b hb => by subst hb; exact ⟨Nat.le_refl _, (Array.getElem?_eq_some_iff.1 hre).1⟩) hb2
  have hS1 : StateO o1 i j k w2 p M := HS.out.step (fun e => n4 e.symm) n7 n9 n10 hs1
  have hM1 : Marks W o1 w2 := HM.out.step (fun e => n4 e.symm) hs1
  have HC2 : Hid (Calls Tryz.prog 80 #[ptr p] (w.alloc (.cells (reC (noM 0) none none 0 0) 33)) fun e w'' => ∃ v, e = .returned (.int .i64 v) ∧ FreeR M v ∧ w'' = w2) := by rw [← hw2]; exact Lib.hid (free_any hS1)
  unfold reC noM at HC2
  dsimp only [List.length_nil] at HC2
  have HRE := Lib.hid hre
  have HB2 := Lib.hid hb2
  have HS1 := Lib.hid hS1
  have HM1 := Lib.hid hM1
  have HL1 := Lib.hid (hl1 _ rfl)
  have HST1 := Lib.hid hs1
  clear hS hM hk hok hls hre hb2 hw2 hS1 hM1 hl1 hl2 hs1
  go_enter Tryz.func38, Tryz.ntmps38
  go_wp2_with fail
  (with_reducible refine HC2.out.mono ?_)
  rintro e w3 ⟨v, rfl, hfr, rfl⟩
  have hv := hfr.eq
  clear HC2
  rcases hfr with ⟨rfl, hfull⟩ | ⟨m, hm8, rfl, hfm, hfl⟩
  · have hr : screateM M ls = (noM 25, M) := by unfold screateM; rw [← hv, if_pos (by omega)]
    have HRR := Lib.hid hr
    clear hr hv hfull
    go_wp2_with fail
    (with_reducible refine (no_any _ _).mono ?_)
    rintro e w4 ⟨rfl, hb4⟩
    unfold noV
    have HB4 := Lib.hid hb4
    have HR4 := Lib.hid ((hb4.block _ (Array.getElem?_eq_some_iff.1 HRE.out).1).trans HRE.out)
    clear hb4
    go_wp2_with (refine wpList_store_rep (by rfl) 33 _ _ (by rfl) w.heap.size (reC (noM 25) none none 0 0) (by rfl) (by rfl) _ HR4.out repSize rfl (reC_one _ _ _ _ _) ?_; intro w5 hs5; have HS5 := Lib.hid hs5; clear hs5)
    refine ret_rep rfl rfl rfl HS5.out.1 ?_
    rw [HRR.out]
    have hM4 := HM1.out.step (I := fun _ => False) (fun e => e) (Step.grow HM1.out HB4.out)
    have hst := HS5.out.step hM4 HL1.out
    exact ⟨o1, ⟨_, rfl, ReplyAt.no_ _ _ _⟩, ((HST1.out.trans (Step.grow HM1.out HB4.out)).trans hst).mono fun m hm => .inr (.inr (.inr hm)), (HS1.out.grow HM1.out HB4.out).step (fun e => n4 e.symm) n7 n9 n10 hst⟩
  · have hneg : ¬ ((m : Int) < 0) := by omega
    have hdn : decide ((m : Int) < 0) = false := by simp
    obtain ⟨t, s, vv, h1, h2, h3, h4⟩ := HS1.out.at_
    obtain ⟨z0, z1, z2, z3, z4⟩ := st_cells h1
    have HMK := Lib.hid (om_make h3 HM1.out n2 HOK.out a n c ls 1 (HLS.out.below HB2.out (Nat.le_refl _)) hnc hn8)
    have hr : screateM M ls = if (makeM M.t ls 1).1.2 ≠ 0 then (noM (makeM M.t ls 1).1.2, { M with t := (makeM M.t ls 1).2 }) else (⟨0, m, [], [], none⟩, StM.put { M with t := (makeM M.t ls 1).2 } m (some ⟨true, (makeM M.t ls 1).1.1, []⟩)) := by
      unfold screateM
      rw [← hv, if_neg hneg]
      rfl
    have HRR := Lib.hid hr
    obtain ⟨T2, hT2⟩ : ∃ T2, T2 = (makeM M.t ls 1).2 := ⟨_, rfl⟩
    obtain ⟨ae, hae⟩ : ∃ ae, ae = (makeM M.t ls 1).1.2 := ⟨_, rfl⟩
    obtain ⟨ai, hai⟩ : ∃ ai, ai = (makeM M.t ls 1).1.1 := ⟨_, rfl⟩
    rw [← hae, ← hT2, ← hai] at HMK HRR
    have HH1 := Lib.hid h1
    have HH2 := Lib.hid h2
    have HH4 := Lib.hid h4
    have hps := HS1.out.low
    have hgs := (Array.getElem?_eq_some_iff.1 HRE.out).1
    have HGS := Lib.hid hgs
    clear hr hv hfm hfl hT2 hae hai h1 h2 h3 h4 z1 z2 z3 z4
    go_wp2_with fail
    (with_reducible refine HMK.out.mono ?_)
    rintro e w4 ⟨rfl, o4, hs4, hT4⟩
    have h0j : ¬ (fun m => m = j) 0 := fun e => n2 e.symm
    have hr4 := (hs4.block (b := w.heap.size) HGS.out (by rw [HL1.out]; exact fun e => n9 e.symm)).trans HRE.out
    have hS4 := StateO.tree (M := M) HKK.out HH1.out HH2.out HH4.out HS1.out.own hps hs4 hT4
    have hM4 := HM1.out.step h0j hs4
    have HS4 := Lib.hid hS4
    have HM4 := Lib.hid hM4
    have HL4 := Lib.hid ((hs4.old _ HGS.out).trans HL1.out)
    have HR4 := Lib.hid hr4
    have HST4 := Lib.hid ((HST1.out.mono (J := fun m => m = i ∨ m = j ∨ m = k ∨ m = l) fun m hm => .inr (.inr (.inr hm))).trans (hs4.mono fun m hm => .inr (.inl hm)))
    by_cases hz : ae = 0
    · have HZ := Lib.hid hz
      have hz2 : (ae != 0) = false := by simpa using hz
      clear hz hr4 hM4 hs4 hT4 z0 hneg hdn
      obtain ⟨t', s', v', k1, k2, k3, k4⟩ := hS4.at_
      have hbo : Below w4.heap.size w4 (w4.alloc (.cells #[.bool true, .int .i64 ai, .slice none 0 0] 128)) := wall w4 _
      have HM5 := Lib.hid (HM4.out.step (I := fun _ => False) (fun e => e) (Step.grow HM4.out hbo))
      have hS5 := HS4.out.grow HM4.out hbo
      have hfree : o4 w4.heap.size = 0 := Decidable.byContradiction fun h9 => by have := (HM4.out.new _ h9).2; omega
      have HPUT := Lib.hid (hS5.put HM5.out HKK.out m hm8 (ptr w4.heap.size) (some ⟨true, ai, []⟩) ⟨w4.heap.size, none, 0, rfl, hfree, by simp, (MapKept.heap_alloc w4 _).1, Nat.le_refl _, RowAt.nil _ _ _⟩)
      have k1' := (hbo.block p HS4.out.low).trans k1
      obtain ⟨y0, y1, y2, y3, y4⟩ := st_cells k1'
      have hzm := y3 m hm8
      have hzf := y4 (3 + m)
      have HR5 : Hid (((w4.alloc (.cells #[.bool true, .int .i64 ai, .slice none 0 0] 128)).setCell ⟨p, 3 + m, none⟩ (ptr w4.heap.size)).heap[w.heap.size]? = some (.cells (reC (noM 0) none none 0 0) 33 (0, 0))) := Lib.hid ((HPUT.out.1.block (b := w.heap.size) (Nat.lt_of_lt_of_le (Array.getElem?_eq_some_iff.1 HR4.out).1 hbo.size) (by rw [HL4.out]; exact fun e => n10 e.symm)).trans ((hbo.block _ (Array.getElem?_eq_some_iff.1 HR4.out).1).trans HR4.out))
      have i0 : (0 : Int) ≤ m := by omega
      have i1 : (m : Int) < 8 := by omega
      have HBO := Lib.hid hbo
      clear k1 k2 k3 k4 hS5 hfree k1' y0 y1 y2 y3 y4 hS4 hbo
      go_wp2_with (refine wpList_store_rep (by rfl) 33 _ _ (by rfl) w.heap.size (reC ⟨0, m, [], [], none⟩ none none 0 0) (by rfl) (by rfl) _ HR5.out repSize rfl (reC_one _ _ _ _ _) ?_; intro w6 hs6; have HS6 := Lib.hid hs6; clear hs6)
      refine ret_rep rfl rfl rfl HS6.out.1 ?_
      rw [HRR.out, if_neg (fun h => h HZ.out)]
      have hM6 := HM5.out.step (I := fun m => m = k) (fun e => n3 e.symm) HPUT.out.1
      have hst := HS6.out.step hM6 HL4.out
      refine ⟨o4, ⟨_, rfl, none, none, 0, 0, rfl, Nat.le_refl _, Nat.le_refl _, RowAt.nil _ _ _, strs_nil _ _⟩, ((HST4.out.trans (Step.grow HM4.out HBO.out)).trans (HPUT.out.1.mono fun m hm => .inr (.inr (.inl hm)))).trans (hst.mono fun m hm => .inr (.inr (.inr hm))), HPUT.out.2.step (fun e => n4 e.symm) n7 n9 n10 hst⟩
    · have HZ := Lib.hid hz
      have hz2 : (ae != 0) = true := by simpa using hz
      clear hz hr4 hM4 hs4 hT4 z0 hS4
      go_wp2_with fail
      (with_reducible refine (no_any _ _).mono ?_)
      rintro e w5 ⟨rfl, hb5⟩
      unfold noV
      have HB5 := Lib.hid hb5
      have HR5 := Lib.hid ((hb5.block _ (Array.getElem?_eq_some_iff.1 HR4.out).1).trans HR4.out)
      clear hb5
      go_wp2_with (refine wpList_store_rep (by rfl) 33 _ _ (by rfl) w.heap.size (reC (noM ae) none none 0 0) (by rfl) (by rfl) _ HR5.out repSize rfl (reC_one _ _ _ _ _) ?_; intro w6 hs6; have HS6 := Lib.hid hs6; clear hs6)
      refine ret_rep rfl rfl rfl HS6.out.1 ?_
      rw [HRR.out, if_pos HZ.out]
      have hM5 := HM4.out.step (I := fun _ => False) (fun e => e) (Step.grow HM4.out HB5.out)
      have hst := HS6.out.step hM5 HL4.out
      exact ⟨o4, ⟨_, rfl, ReplyAt.no_ _ _ _⟩, (HST4.out.trans (Step.grow HM4.out HB5.out)).trans (hst.mono fun m hm => .inr (.inr (.inr hm))), (HS4.out.grow HM4.out HB5.out).step (fun e => n4 e.symm) n7 n9 n10 hst⟩
end
end Go.Proofs.YtpgklnhkfgbpgaaGreatDoor
namespace Go.Proofs.YtpgklnhkfgbpgaaGreatDoor
open Go.ChangeShapes Go.WideShapes Go.ChangeAt Go.RowKit
set_option linter.unusedVariables false
set_option linter.unusedSimpArgs false

/-- The tree that is asked: now's of 0, or a snapshot's. -/
def treeAtM (M : StM) (id : Int) : Option TrM := if id = 0 then some M.t else (findM M.s id).map (·.t)
def AtRet (o : Mark) (j : Nat) (w : World) (M : StM) (id : Int) (e : Ending) (w' : World) : Prop :=
  Below w.heap.size w w' ∧ ((treeAtM M id = none ∧ e = .returned (.tuple #[.pointer none, .int .i64 29])) ∨ ∃ T q, treeAtM M id = some T ∧ e = .returned (.tuple #[ptr q, .int .i64 0]) ∧ (∃ m, TreeO o m w' q T) ∧ OkM T)
section
variable {W w : World} {o : Mark} {i j k l p : Nat} {M : StM}
set_option maxRecDepth 100000 in
set_option maxHeartbeats 4000000 in
theorem at_any (hS : StateO o i j k w p M) (hM : Marks W o w) (hok : OkM M.t) (hl8 : M.s.l.length ≤ 1000) (id : Int) : Calls Tryz.prog 81 #[ptr p, .int .i64 id] w (AtRet o j w M id) := by
  obtain ⟨t, s, v, h1, h2, h3, h4⟩ := hS.at_
  obtain ⟨z0, z1, z2, z3, z4⟩ := st_cells h1
  by_cases h0 : id = 0
  · subst h0
    have HT := Lib.hid h3
    have HOK := Lib.hid hok
    clear hS hM hok hl8 h1 h2 h3 h4 z1 z2 z3 z4
    go_enter Tryz.func81, Tryz.ntmps81
    go_wp2_with fail
    go_ret2
    exact ⟨Below.refl _ _, .inr ⟨M.t, t, if_pos rfl, rfl, ⟨j, HT.out⟩, HOK.out⟩⟩
  · have hd : (id == 0) = false := by simpa using h0
    have HG := Lib.hid (get_any h2 hM hl8 id)
    have H0 := Lib.hid h0
    clear hS hM hok hl8 h1 h2 h3 h4 z0 z2 z3 z4 h0
    go_enter Tryz.func81, Tryz.ntmps81
    go_wp2_with fail
    (with_reducible refine HG.out.mono ?_)
    rintro e w1 ⟨hb1, hg⟩
    have HB1 := Lib.hid hb1
    clear hb1
    rcases hg with ⟨hf, rfl⟩ | ⟨x, q, hf, rfl, hT, hOk⟩
    · have hr : treeAtM M id = none := by unfold treeAtM; rw [if_neg H0.out, hf]; rfl
      have HRR := Lib.hid hr
      clear hf hr
      go_wp2_with fail
      go_ret2
      exact ⟨HB1.out, .inl ⟨HRR.out, rfl⟩⟩
    · have hr : treeAtM M id = some x.t := by unfold treeAtM; rw [if_neg H0.out, hf]; rfl
      have HRR := Lib.hid hr
      have HT := Lib.hid hT
      have HOK := Lib.hid hOk
      clear hf hr hT hOk
      go_wp2_with fail
      go_ret2
      exact ⟨HB1.out, .inr ⟨x.t, q, HRR.out, rfl, ⟨0, HT.out⟩, HOK.out⟩⟩
end
end Go.Proofs.YtpgklnhkfgbpgaaGreatDoor
