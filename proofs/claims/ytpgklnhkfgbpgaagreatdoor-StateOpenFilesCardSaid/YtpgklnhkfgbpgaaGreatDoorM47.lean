/- package state: Snaps.Copy, Settled. package state: a file that is not closed, plainly. StateOpenFiles: the walk. -/
import Derived.Test.YtpgklnhkfgbpgaaGreatDoorM40
import Derived.Test.YtpgklnhkfgbpgaaGreatDoorM33
import Derived.Test.YtpgklnhkfgbpgaaGreatDoorM29
import Derived.Lib.SliceRun
import Derived.Test.YtpgklnhkfgbpgaaGreatDoorM46
import Derived.Test.YtpgklnhkfgbpgaaGreatDoorM45
import Derived.Test.YtpgklnhkfgbpgaaGreatDoorM41
import Derived.Test.YtpgklnhkfgbpgaaGreatDoorM44
namespace Go.Proofs.YtpgklnhkfgbpgaaGreatDoor
open Go.ChangeShapes Go.WideShapes Go.ChangeAt Go.RowKit
set_option linter.unusedVariables false
set_option linter.unusedSimpArgs false

set_option maxHeartbeats 1000000 in
theorem sclone_any {B n : Nat} {v : Value} {vals : List Value} {w : World} (hv : w.ownsRow B 108 3 v n vals) (h1 : ∀ u ∈ vals, u.oneCell' = true) (hn : n ≤ 1000) :
    Calls Tryz.prog 103 #[v] w fun e w' => ∃ v', e = .returned v' ∧ w'.ownsRow w.heap.size 108 3 v' n vals ∧ Below w.heap.size w w' := by
  obtain ⟨i0, hi, hz0, hz1, hz2⟩ := info_parts infoOne
  obtain ⟨a, c, rfl, hcap⟩ := own_form hv
  obtain ⟨-, -, hr⟩ := RowAt.of_rown hv (by unfold maxLen; omega)
  have heq := fun w => Lib.run_eql_slice_nil (P := Tryz.prog) w 102 108 a n c 0 0 Tryz.underlying102
  rcases a with _ | ad
  · have h0 : n = 0 := by
      rcases Nat.eq_zero_or_pos n with h0 | h0
      · exact h0
      · obtain ⟨_, _, h, _⟩ := hr.at_ (Nat.mul_pos h0 (by omega : 0 < 3))
        cases h
    subst h0
    obtain rfl : vals = [] := List.eq_nil_of_length_eq_zero (by have := hr.length; omega)
    clear hv hr h1
    go_enter Tryz.func103, Tryz.ntmps103
    go_wp2_with fail
    go_ret
    exact ⟨_, rfl, ⟨rfl, .inl ⟨rfl, rfl⟩⟩, Below.refl _ _⟩
  · have hb0 : Below w.heap.size w (w.alloc (.cells #[] 108)) := wall w _
    have HR := Lib.hid (hr.move hb0.size fun b hb hbw => ⟨hb.2, hb0.block b hb.2⟩)
    have HO := Lib.hid (rown_new (k := 3) (MapKept.heap_alloc w (.cells #[] 108)).1 (Nat.le_refl _))
    have H1 := Lib.hid h1
    have HB0 := Lib.hid hb0
    clear hv hr h1 hb0
    go_enter Tryz.func103, Tryz.ntmps103
    go_wp2_with (at_builtin; refine wpList_append_rowb (by rfl) _ _ 102 (by rfl) w.heap.size 108 i0 _ 3 40 Tryz.underlying102 hi hz0 hz1 hz2 rfl (by omega) _ _ _ (by rfl) HO.out (some ad) n c vals (by rfl) HR.out H1.out (by unfold maxLen; omega) (by omega) (by have := HB0.out.size; omega) ?_; intro A' c' w2 hown2 hb2)
    go_ret
    rw [Nat.zero_add] at hown2
    exact ⟨_, by simp, hown2, HB0.out.trans hb2⟩
section
variable {W w : World} {o : Mark} {i j k p s : Nat} {S : SnM}
set_option maxRecDepth 100000 in
set_option maxHeartbeats 4000000 in
theorem scopy_any (hS : SnapsO o i w s S) (hM : Marks W o w) (hl8 : S.l.length ≤ 8) (hla : S.last.length ≤ 64) (j : Nat) (hj : j ≠ 0) :
    Calls Tryz.prog 58 #[ptr s] w fun e w' => ∃ q o', e = .returned (ptr q) ∧ Step o (fun k => k = j) w o' w' ∧ SnapsO o' j w' q S ∧ Below w.heap.size w w' := by
  obtain ⟨v, la, lc, vals, h1, h2, h3, h4, h5, h6, h7, h8⟩ := hS.at_
  have HM := Lib.hid hM
  have HO := Lib.hid h6
  have HLA := Lib.hid h8
  obtain ⟨n, hn⟩ : ∃ n, n = S.l.length := ⟨_, rfl⟩
  obtain ⟨m, hm⟩ : ∃ m, m = S.last.length := ⟨_, rfl⟩
  obtain ⟨nx, hnx⟩ : ∃ nx, nx = S.next := ⟨_, rfl⟩
  rw [← hn] at h4 hl8
  rw [← hm, ← hnx] at h1
  rw [← hm] at h7 hla
  have HN := Lib.hid hn
  have HM2 := Lib.hid hm
  have HNX := Lib.hid hnx
  have HL7 := Lib.hid h7
  have HK : Hid (∀ w', Below w.heap.size w w' → w'.cell? ⟨s, 0, none⟩ = some v ∧ w'.cell? ⟨s, 1, none⟩ = some (.int .i64 nx) ∧ w'.cell? ⟨s, 2, none⟩ = some (.slice la m lc)) := fun w' hb => by
    have hs := (hb.block s h3).trans h1
    refine ⟨?_, ?_, ?_⟩ <;> simp [World.cell?, hs]
  have HCL := fun (w' : World) (hb : Below w.heap.size w w') => sclone_any (own_keep h4 fun b _ hbw => hb.block b hbw) h6.one (by omega)
  have HC := Lib.hid HCL
  clear hS hM h1 h2 h3 h4 h5 h6 h7 h8 hn hm hnx HCL
  go_enter Tryz.func58, Tryz.ntmps58
  go_wp2_with fail
  refine wp_region_noPanic ?_
  refine wp_region_held_drew (S := (fun w' => w'.cell? ⟨s, 0, none⟩ = some v ∧ w'.cell? ⟨s, 1, none⟩ = some (.int .i64 nx) ∧ w'.cell? ⟨s, 2, none⟩ = some (.slice la m lc))) (by kernel_rfl) ?_ (fun hS => ?_)
  · exact HK.out _ (Below.refl _ _).drew
  refine tkH 0 (hS := hS) (h := ?_)
  refine tkH 1 (hS := hS) (h := ?_)
  refine tkH 2 (hS := hS) (h := ?_)
  refine tkH 3 (hS := hS) (h := ?_)
  refine tkH 5 (hS := hS) (h := ?_)
  refine tkH 6 (hS := hS) (h := ?_)
  refine tkH 7 (hS := hS) (h := ?_)
  refine tkH 8 (hS := hS) (h := ?_)
  refine tkH 9 (hS := hS) (h := ?_)
  refine tkH 10 (hS := hS) (h := ?_)
  refine tkH 11 (hS := hS) (h := ?_)
  refine tkH 12 (hS := hS) (h := ?_)
  refine rdH 4 (h := fun K hK => ?_)
  go_simp
  (with_reducible refine (HC.out w.drew (Below.refl _ _).drew).mono ?_)
  rintro e w1 ⟨v', rfl, hv', hb1⟩
  have hb01 : Below w.heap.size w w1 := (Below.refl _ _).drew.trans hb1
  have HB1 := Lib.hid hb01
  obtain ⟨a', c', rfl, hac'⟩ := own_form hv'
  have HV := Lib.hid hv'
  clear hv' hb1 hb01 hac'
  go_wp2_with fail
  refine hK.out _ _ (HK.out _ HB1.out) (fun hS => ?_)
  clear hK K
  try simp only [Act.put, List.setIfInBounds_toArray, List.set_cons_zero, List.set_cons_succ]
  refine tkH 13 (hS := hS) (h := ?_)
  refine rdH 14 (h := fun K hK => ?_)
  go_simp
  have hb12 := wall w1 (.cells #[.slice a' n c', .int .i64 nx, .slice la m lc] 104)
  have HB12 := Lib.hid hb12
  have HB2 := Lib.hid (HB1.out.trans (hb12.mono HB1.out.size))
  clear hb12
  refine hK.out _ _ (HK.out _ HB2.out) (fun hS => ?_)
  clear hK K
  try simp only [Act.put, List.setIfInBounds_toArray, List.set_cons_zero, List.set_cons_succ]
  refine tkH 15 (hS := hS) (h := ?_)
  refine wpAnyH_done (by kernel_rfl) ?_ _
  refine NoPanic.normal ?_
  go_wp2_with fail
  go_ret
  have hs12 : w1.heap.size < (w1.alloc (.cells #[.slice a' n c', .int .i64 nx, .slice la m lc] 104)).heap.size := by simp
  have hs01 := HB1.out.size
  obtain ⟨o', hs, g1, g2⟩ := mark_new HM.out j (fun b => b = w1.heap.size ∨ (Value.slice a' n c').ownBlock = some b) (w' := w1.alloc (.cells #[.slice a' n c', .int .i64 nx, .slice la m lc] 104)) (fun b hb => by
    rcases hb with rfl | hb
    · exact ⟨by omega, hs12⟩
    · have := own_block_ge HV.out b hb
      have := own_low HV.out b hb
      exact ⟨by simpa using own_block_ge HV.out b hb, by omega⟩) HB2.out
  refine ⟨w1.heap.size, o', rfl, hs, ⟨.slice a' n c', la, lc, vals, ?_, g1 _ (.inl rfl), hs12, ?_, fun b hb => ⟨g1 b (.inr hb), ?_, ?_⟩, ?_, ?_, ?_⟩, HB2.out⟩
  · rw [← HNX.out, ← HM2.out]; exact (MapKept.heap_alloc w1 _).1
  · rw [← HN.out]
    exact own_keep (own_base HV.out (Nat.zero_le _)) fun b _ hbw => HB12.out.block b hbw
  · have := own_low HV.out b hb; omega
  · have := own_low HV.out b hb; omega
  · exact HO.out.step (fun e => hj e.symm) hs
  · rw [← HM2.out]; exact HL7.out
  · exact HLA.out.move HB2.out.size fun b hb hbw => ⟨⟨(hs.old b hb.2).trans hb.1, Nat.lt_of_lt_of_le hb.2 HB2.out.size⟩, HB2.out.block b hb.2⟩
/-- A state without what is open. -/
def settledM (M : StM) : StM := ⟨commitM M.t, M.s, M.now, fun _ => none⟩
set_option maxRecDepth 100000 in
set_option maxHeartbeats 4000000 in
theorem ssettled_any {M : StM} (hS : StateO o i j k w p M) (hM : Marks W o w) (hT : OkM M.t) (hl8 : M.s.l.length ≤ 8) (hla : M.s.last.length ≤ 64) {i' j' k' l' : Nat} (hk : Mk i' j' k' l') (hni : i' ≠ i ∧ j' ≠ i) (hf : ∀ b, o b ≠ j') :
    Calls Tryz.prog 22 #[ptr p] w fun e w' => ∃ q o', e = .returned (ptr q) ∧ Step o (fun m => m = i' ∨ m = j' ∨ m = k') w o' w' ∧ StateO o' i' j' k' w' q (settledM M) ∧ Below w.heap.size w w' := by
  obtain ⟨n1, n2, n3, n4, n5, n6, n7, n8, n9, n10⟩ := hk.ne
  obtain ⟨t, s, v, h1, h2, h3, h4⟩ := hS.at_
  have hlow := hS.low
  obtain ⟨now, hnow⟩ : ∃ now, now = M.now := ⟨_, rfl⟩
  rw [← hnow] at h1
  have HNOW := Lib.hid hnow
  have HK : Hid (∀ w', Below w.heap.size w w' → w'.cell? ⟨p, 0, none⟩ = some (ptr t) ∧ w'.cell? ⟨p, 1, none⟩ = some (ptr s) ∧ w'.cell? ⟨p, 2, none⟩ = some (.int .u64 now)) := fun w' hb => by
    obtain ⟨z0, z1, z2, -⟩ := st_cells ((hb.block p hlow).trans h1)
    exact ⟨z0, z1, z2⟩
  have hbd : Below w.heap.size w w.drew := (Below.refl _ _).drew
  have HMD := Lib.hid (hM.grow hbd)
  have HSD := Lib.hid (h2.grow hM hbd)
  have HC := Lib.hid (committed_own (h3.grow hbd) HMD.out hT j' n2 hf)
  have HSG := Lib.hid (Step.grow (I := fun m => m = i' ∨ m = j' ∨ m = k') hM hbd)
  have HBD := Lib.hid hbd
  clear hS hM hT h1 h2 h3 h4 hf hk hnow hbd
  go_enter Tryz.func22, Tryz.ntmps22
  go_wp2_with fail
  refine wp_region_noPanic ?_
  refine wp_region_held_drew (S := (fun w' => w'.cell? ⟨p, 0, none⟩ = some (ptr t) ∧ w'.cell? ⟨p, 1, none⟩ = some (ptr s) ∧ w'.cell? ⟨p, 2, none⟩ = some (.int .u64 now))) (by kernel_rfl) ?_ (fun hS => ?_)
  · exact HK.out _ (Below.refl _ _).drew
  refine tkH 0 (hS := hS) (h := ?_)
  refine tkH 1 (hS := hS) (h := ?_)
  refine tkH 2 (hS := hS) (h := ?_)
  refine tkH 3 (hS := hS) (h := ?_)
  refine tkH 5 (hS := hS) (h := ?_)
  refine tkH 6 (hS := hS) (h := ?_)
  refine tkH 7 (hS := hS) (h := ?_)
  refine tkH 8 (hS := hS) (h := ?_)
  refine tkH 10 (hS := hS) (h := ?_)
  refine tkH 11 (hS := hS) (h := ?_)
  refine tkH 12 (hS := hS) (h := ?_)
  refine tkH 13 (hS := hS) (h := ?_)
  refine rdH 4 (h := fun K hK => ?_)
  go_simp
  (with_reducible refine HC.out.mono ?_)
  rintro e w1 ⟨q, o1, rfl, hs1, hT1, hb1⟩
  have hM1 := HMD.out.step (fun e => n2 e.symm) hs1
  have hS1 := HSD.out.step (fun e => n2 e.symm) (fun e => hni.2 e.symm) hs1
  have HCP := Lib.hid (scopy_any hS1 hM1 hl8 hla i' n1)
  have HM1 := Lib.hid hM1
  have HT1 := Lib.hid hT1
  have HS1 := Lib.hid hs1
  have HB1 := Lib.hid (HBD.out.trans hb1)
  clear hM1 hS1 hT1 hs1 hb1 HSD HC
  go_wp2_with fail
  refine hK.out _ _ (HK.out _ HB1.out) (fun hS => ?_)
  clear hK K
  try simp only [Act.put, List.setIfInBounds_toArray, List.set_cons_zero, List.set_cons_succ]
  refine rdH 9 (h := fun K hK => ?_)
  go_simp
  (with_reducible refine HCP.out.mono ?_)
  rintro e w2 ⟨s2, o2, rfl, hs2, hS2, hb2⟩
  have HM2 := Lib.hid (HM1.out.step (fun e => n1 e.symm) hs2)
  have HT2 := Lib.hid (HT1.out.step (fun e => n1 e.symm) (fun e => n5 e.symm) hs2)
  have HS2 := Lib.hid hs2
  have HSN := Lib.hid hS2
  have HB2 := Lib.hid (HB1.out.trans (hb2.mono HB1.out.size))
  clear hs2 hS2 hb2 HCP
  go_wp2_with fail
  refine hK.out _ _ (HK.out _ HB2.out) (fun hS => ?_)
  clear hK K
  try simp only [Act.put, List.setIfInBounds_toArray, List.set_cons_zero, List.set_cons_succ]
  refine tkH 14 (hS := hS) (h := ?_)
  refine rdH 15 (h := fun K hK => ?_)
  go_simp
  have hb3 : Below w2.heap.size w2 (w2.alloc (.cells (stC q s2 now fun _ => .pointer none) 70)) := wall w2 _
  have HB3 := Lib.hid hb3
  have HB4 := Lib.hid (HB2.out.trans (hb3.mono HB2.out.size))
  clear hb3
  refine hK.out _ _ (HK.out _ HB4.out) (fun hS => ?_)
  clear hK K
  try simp only [Act.put, List.setIfInBounds_toArray, List.set_cons_zero, List.set_cons_succ]
  refine tkH 16 (hS := hS) (h := ?_)
  refine wpAnyH_done (by kernel_rfl) ?_ _
  refine NoPanic.normal ?_
  go_wp2_with fail
  go_ret
  obtain ⟨o3, hs3, g1, g2⟩ := mark_new HM2.out k' (fun b => b = w2.heap.size) (w' := w2.alloc (.cells (stC q s2 now fun _ => .pointer none) 70)) (fun b hb => by subst hb; exact ⟨Nat.le_refl _, by simp⟩) HB3.out
  have h0k : ¬ (fun m => m = k') 0 := fun e => n3 e.symm
  have hst : Step o (fun m => m = i' ∨ m = j' ∨ m = k') w o3 _ := ((HSG.out.trans (HS1.out.mono fun m hm => .inr (.inl hm))).trans (HS2.out.mono fun m hm => .inl hm)).trans (hs3.mono fun m hm => .inr (.inr hm))
  exact ⟨w2.heap.size, o3, rfl, hst, ⟨⟨q, s2, fun _ => .pointer none, by rw [show (settledM M).now = now from HNOW.out.symm]; exact (MapKept.heap_alloc w2 _).1, HSN.out.step h0k n6 hs3, HT2.out.step h0k n8 hs3, fun n hn => rfl⟩, g1 _ rfl, by simp⟩, HB4.out⟩
theorem miss {I : Nat → Prop} {w w' : World} {o o' : Mark} {k : Nat} (h : ∀ b, o b ≠ k) (hk : k ≠ 0) (hI : ¬ I k) (hs : Step o I w o' w') : ∀ b, o' b ≠ k := by
  intro b e
  rcases Nat.lt_or_ge b w.heap.size with hb | hb
  · exact h b ((hs.old b hb).symm.trans e)
  · have := (hs.new b hb (by rw [e]; exact hk)).1
    rw [e] at this
    exact hI this
theorem StOk.settled {c : Int} {M : StM} (h : StOk c M) : StOk c (settledM M) := ⟨h.t.commitM, h.s, h.next, h.now, fun n f hf => by cases hf⟩
theorem st_settled {c : Int} {M : StM} (h : StW W o i w p c M) (hi : 0 < i) (i' : Nat) (hd : i + 4 < i') (hf : ∀ b, o b ≠ i' + 1) :
    Calls Tryz.prog 22 #[ptr p] w fun e w' => ∃ q o', e = .returned (ptr q) ∧ Step o (Five i') w o' w' ∧ StW W o' i' w' q c (settledM M) := by
  refine (ssettled_any h.st h.marks h.ok.t.1 h.ok.s.few h.ok.s.last (mk5 (i := i') (by omega)).mm (by omega) hf).mono ?_
  rintro e w' ⟨q, o', rfl, hs, hS, hb⟩
  have hs5 : Step o (Five i') w o' w' := hs.mono fun m hm => five_of (by omega)
  exact ⟨q, o', rfl, hs5, ⟨hS, h.marks.step (fun e => by have := e.1; omega) hs5, h.ok.settled⟩⟩
end
end Go.Proofs.YtpgklnhkfgbpgaaGreatDoor
namespace Go.Proofs.YtpgklnhkfgbpgaaGreatDoor
open Go.ChangeShapes Go.WideShapes Go.ChangeAt Go.RowKit
set_option linter.unusedVariables false
set_option linter.unusedSimpArgs false

theorem oneT_open (d : List UInt8) : commitM (oneT d false 0) = newM := rfl
def hE : List UInt8 := shaM (newSn.last ++ saveB newM)
def snE : SnM := ⟨[⟨1, hE, newM⟩], 2, hE⟩
def hF (d : List UInt8) (u : Int) : List UInt8 := shaM (hE ++ saveB (oneT d true u))
def snT (d : List UInt8) (u : Int) : SnM := ⟨[⟨1, hE, newM⟩, ⟨2, hF d u, oneT d true u⟩], 3, hF d u⟩
theorem take_open (d : List UInt8) : takeM newSn (oneT d false 0) = ((1, 0), snE) := by
  unfold takeM
  rw [if_neg (by simp [newSn]), oneT_open]
  rfl
theorem take_two (d : List UInt8) (u : Int) : takeM snE (oneT d true u) = ((2, 0), snT d u) := by
  unfold takeM
  rw [if_neg (by simp [snE]), oneT_commit]
  rfl
def kpO : OpM := ⟨13, [47, 97], [], 0, 0, 0, 9, 0, []⟩
theorem kpO_ok : OpOk kpO := by unfold kpO; exact opOk_small (by simp) (by simp) (by simp) (by simp) (by simp) (by simp) (by simp) (by simp) (by simp)
theorem save_open (d : List UInt8) (f : Option FdM) : saveSt (stA d false 0 f) = saveSt newSt := by
  show beB 0 8 ++ beB (saveB (commitM (oneT d false 0))).length 8 ++ saveB (commitM (oneT d false 0)) ++ saveSn newSn = beB 0 8 ++ beB (saveB (commitM newM)).length 8 ++ saveB (commitM newM) ++ saveSn newSn
  rw [oneT_open, show commitM newM = newM from rfl]
theorem do_open_busy (d : List UInt8) : sdoM (stA d false 0 (some ⟨true, 1, []⟩)) opO_ = (noM 25, stA d false 0 (some ⟨true, 1, []⟩)) := rfl
theorem do_keep_busy (d : List UInt8) : sdoM (stA d false 0 (some ⟨true, 1, []⟩)) kpO = (noM 25, stA d false 0 (some ⟨true, 1, []⟩)) := rfl
theorem do_take1 (d : List UInt8) : sdoM (stA d false 0 (some ⟨true, 1, []⟩)) tkO = (⟨0, 1, [], [], none⟩, stB (oneT d false 0) snE 0 (some ⟨true, 1, []⟩)) := by
  show ((⟨0 + (takeM newSn (oneT d false 0)).1.2, (takeM newSn (oneT d false 0)).1.1, [], [], none⟩ : ReM), (stB (oneT d false 0) newSn 0 (some ⟨true, 1, []⟩)).sn (takeM newSn (oneT d false 0)).2) = _
  rw [take_open]
  rfl
theorem do_close2 (d : List UInt8) (u : Int) (h : u ≤ 1099511627776) : sdoM (stB (oneT d false 0) snE 0 (some ⟨true, 1, []⟩)) (clO u) = (noM 0, stB (oneT d true u) snE 0 none) := by
  show ofEr (scloseM (stB (oneT d false 0) snE 0 (some ⟨true, 1, []⟩)) ⟨6, [], [], 0, 0, 0, u, 0, []⟩) = _
  have hg : getFd (stB (oneT d false 0) snE 0 (some ⟨true, 1, []⟩)) 0 true = some ⟨true, 1, []⟩ := rfl
  unfold scloseM
  dsimp only
  rw [hg]
  dsimp only
  have hs : sealM (stB (oneT d false 0) snE 0 (some ⟨true, 1, []⟩)).t 1 u = (0, oneT d true u) := one_seal d u h
  rw [hs]
  show ofEr (0, StM.put { (stB (oneT d false 0) snE 0 (some ⟨true, 1, []⟩)) with t := oneT d true u } 0 none) = _
  rw [put_fd1 _ (some ⟨true, 1, []⟩) none rfl]
  rfl
theorem do_take2 (d : List UInt8) (u : Int) : sdoM (stB (oneT d true u) snE 0 none) tkO = (⟨0, 2, [], [], none⟩, stB (oneT d true u) (snT d u) 0 none) := by
  show ((⟨(takeM snE (oneT d true u)).1.2, (takeM snE (oneT d true u)).1.1, [], [], none⟩ : ReM), (stB (oneT d true u) snE 0 none).sn (takeM snE (oneT d true u)).2) = _
  rw [take_two]
  rfl
theorem do_stat1 (d : List UInt8) (u : Int) : sdoM (stB (oneT d true u) (snT d u) 0 none) (stO 1) = (noM 20, stB (oneT d true u) (snT d u) 0 none) := rfl
theorem do_stat2 (d : List UInt8) (u : Int) : sdoM (stB (oneT d true u) (snT d u) 0 none) (stO 2) = (⟨0, 0, [], [], some (1, ⟨1, 1, u, true, d, []⟩)⟩, stB (oneT d true u) (snT d u) 0 none) := rfl
theorem do_stat3 (d : List UInt8) (u : Int) : sdoM (stB (oneT d true u) (snT d u) 0 none) (stO 0) = (⟨0, 0, [], [], some (1, ⟨1, 1, u, true, d, []⟩)⟩, stB (oneT d true u) (snT d u) 0 none) := rfl
theorem settled_one (d : List UInt8) (u : Int) : settledM (stB (oneT d true u) (snT d u) 0 none) = stB (oneT d true u) (snT d u) 0 none := by
  unfold settledM stB
  rw [fd1_none]
  rfl
/-- A reply's node. -/
theorem RepV.nd {o : Mark} {w : World} {g : Nat} {r : ReM} {da la : Option Addr} {dc lc : Nat} (h : RepV o w g r da la dc lc) (id : Int) (x : ItM) (hq : r.node = some (id, x)) :
    w.cell? ⟨g, 4, none⟩ = some (.int .i64 id) ∧ w.cell? ⟨g, 5, none⟩ = some (.int .i64 x.kind) ∧ w.cell? ⟨g, 6, none⟩ = some (.int .i64 x.links) ∧ w.cell? ⟨g, 7, none⟩ = some (.int .i64 x.b.length) ∧ w.cell? ⟨g, 8, none⟩ = some (.int .u64 x.til) ∧ w.cell? ⟨g, 9, none⟩ = some (.bool x.closed) := by
  have e := h.at_
  unfold reC at e
  rw [hq] at e
  simp [World.cell?, e]
end Go.Proofs.YtpgklnhkfgbpgaaGreatDoor
namespace Go.Proofs.YtpgklnhkfgbpgaaGreatDoor.stateOpenFiles
open Go.ChangeShapes Go.WideShapes Go.ChangeAt Go.RowKit
set_option linter.unusedVariables false
set_option linter.unusedSimpArgs false

set_option maxRecDepth 100000 in
set_option maxHeartbeats 64000000 in
theorem walk {H : Type} {enc : TypeId × Value → H} (W : World) (base : Nat) (hsh : W.ShapedOpen Tryz.prog) (v0 : Value) (d0 : DataW H) (p0 : List MemPlace) (o0 : Value.okWide Tryz.prog W .any base 22 v0) (h0 : DataW.Trod enc Tryz.prog W 0 (fun _ => true) true 22 v0 d0 p0) (l0 : ∀ x ∈ p0, x.block < W.heap.size) (a1 : Int) (w1 : (Lit.int .u64 a1).wf = true) (hsz : (DataW.weightsEach Tryz.prog [22, 29] ([d0, .lit (.int .u64 a1)] : List (DataW H))).all (· ≤ reachBytes) = true) :
    Calls Tryz.prog 8 #[v0, .int .u64 a1] W (Fine W) := by
  obtain ⟨m, hm, -⟩ := maxLen_cell hsh
  obtain ⟨da, dn, dc, bs, rfl, hdc, hda⟩ : ∃ a len cap bs, v0 = .slice a len cap ∧ len ≤ cap ∧ RowAt (Old W) W a len ((bs : List UInt8).map bv) := by
    obtain ⟨a0, len, cap, rfl⟩ := okWide_slice Tryz.underlying22 o0
    obtain ⟨fuel, hf⟩ := h0
    exact open_bytesT hf l0
  have HM := Lib.hid hm
  have b1 := (u64_of_wfO w1).1
  obtain ⟨u, hu⟩ : ∃ u, u = a1 % 50 := ⟨_, rfl⟩
  have hu1 : a1.tmod 50 = u := by rw [hu]; exact Int.tmod_eq_emod_of_nonneg b1
  have bu : 0 ≤ u ∧ u < 50 := by omega
  obtain ⟨d, hd⟩ : ∃ d, d = bs.take 500 := ⟨_, rfl⟩
  have hdl : min dn 500 = d.length := by rw [hd, List.length_take, show bs.length = dn by simpa using hda.length, Nat.min_comm]
  have HDA : Hid (RowAt (Old W) W da d.length (d.map bv)) := by
    have := hda.take 500
    rw [hdl, ← List.map_take, ← hd] at this
    exact this
  have hd5 : d.length ≤ 500 := by omega
  have HCUT : Hid (∀ w : World, Calls Tryz.prog 13 #[.slice da dn dc, .int .i64 500] w fun e w' => e = .returned (.slice da d.length dc) ∧ w = w') := fun w => by
    have := cut_any da dn dc 500 hdc (by omega) hda.small w
    rw [hdl] at this
    exact this
  obtain ⟨E, hE⟩ : ∃ E, E = saveSt newSt := ⟨_, rfl⟩
  have HE := Lib.hid hE
  have hu2 := hu.symm
  clear hm o0 h0 l0 hsz hsh w1 hda hdl hd hdc hu hE
  have hfl := field_er
  have HFR0 : Hid (∀ b : Nat, (fun _ => 0 : Mark) b ≠ 7) := fun b => by simp
  go_enter Tryz.func8, Tryz.ntmps8
  go_wp2_with fail
  (with_reducible refine (st_new (i := 1) (marks0 W) (by omega)).mono ?_)
  rintro e w1 ⟨ps, o1, rfl, hs1, hS1⟩
  have HS1 := Lib.hid hS1
  have HFR2 := Lib.hid (miss HFR0.out (by omega) (fun e => by have := e.2; omega) hs1)
  clear HFR0
  clear hs1 hS1
  go_wp2_with fail
  (with_reducible refine (HCUT.out _).mono ?_)
  rintro e _ ⟨rfl, rfl⟩
  clear HCUT
  have HSA3 := Lib.hid (stsave_any HS1.out.st HS1.out.marks HS1.out.ok (HS1.out.ok.sv (by omega) SnIds.new))
  go_wp2_with fail
  (with_reducible refine HSA3.out.mono ?_)
  rintro e w3 ⟨ra3, rn3, rc3, rfl, hrc, hrr, hb⟩
  rw [← HE.out] at hrr
  have hcv := conv_row (c := rc3) hrr
  have HS4 := Lib.hid (HS1.out.grow hb)
  clear HS1
  clear hrc hrr hb HSA3
  have HC5 := Lib.hid (st_doE0 HS4.out (by omega) (by omega) k14a (k14_ok _ (by simp)) m HM.out (opA 1 ⟨#[47, 97]⟩ ⟨#[]⟩ 0 0 0 0 0 none 0 0) rfl rfl do_create)
  go_wp2_with fail
  (with_reducible refine HC5.out.mono ?_)
  rintro e w5 ⟨o5, ⟨y5, rfl, da5, la5, dc5, lc5, rfl, p1, p2, p3, p4⟩, hs5, hS5⟩
  have HS5 := Lib.hid hS5
  have HR5 := Lib.hid (And.intro p1 (And.intro p2 (And.intro p3 p4)))
  have HFR6 := Lib.hid (miss HFR2.out (by omega) (fun e => by have := e.2; omega) hs5)
  clear HFR2
  clear hs5 hS5 p1 p2 p3 p4 HC5 HS4
  unfold reC
  try unfold noM
  clear hcv
  have HC7 := Lib.hid (st_doE HS5.out (by omega) (by omega) (wrO d) (wrO_ok d (by omega)) da dc (HDA.out.below HS5.out.below (Nat.le_refl _)) m HM.out (opA 5 ⟨#[]⟩ ⟨#[]⟩ 0 0 0 0 0 da d.length dc) rfl (do_write d (by omega)))
  go_wp2_with fail
  (with_reducible refine HC7.out.mono ?_)
  rintro e w7 ⟨o7, ⟨y7, rfl, da7, la7, dc7, lc7, rfl, p1, p2, p3, p4⟩, hs7, hS7⟩
  have HS7 := Lib.hid hS7
  have HR7 := Lib.hid (And.intro p1 (And.intro p2 (And.intro p3 p4)))
  have HFR8 := Lib.hid (miss HFR6.out (by omega) (fun e => by have := e.2; omega) hs7)
  clear HFR6
  clear hs7 hS7 p1 p2 p3 p4 HC7 HS5
  unfold reC
  try unfold noM
  have HSA9 := Lib.hid (stsave_any HS7.out.st HS7.out.marks HS7.out.ok (HS7.out.ok.sv (by omega) SnIds.new))
  go_wp2_with fail
  (with_reducible refine HSA9.out.mono ?_)
  rintro e w9 ⟨ra9, rn9, rc9, rfl, hrc, hrr, hb⟩
  rw [save_open d _, ← HE.out] at hrr
  have hcv := conv_row (c := rc9) hrr
  have HS10 := Lib.hid (HS7.out.grow hb)
  clear HS7
  clear hrc hrr hb HSA9
  have HC11 := Lib.hid (st_doE0 HS10.out (by omega) (by omega) opO_ opO_ok m HM.out (opA 3 ⟨#[47, 97]⟩ ⟨#[]⟩ 0 0 0 0 0 none 0 0) rfl rfl (do_open_busy d))
  go_wp2_with fail
  (with_reducible refine HC11.out.mono ?_)
  rintro e w11 ⟨o11, ⟨y11, rfl, da11, la11, dc11, lc11, rfl, p1, p2, p3, p4⟩, hs11, hS11⟩
  have HS11 := Lib.hid hS11
  have HR11 := Lib.hid (And.intro p1 (And.intro p2 (And.intro p3 p4)))
  have HFR12 := Lib.hid (miss HFR8.out (by omega) (fun e => by have := e.2; omega) hs11)
  clear HFR8
  clear hs11 hS11 p1 p2 p3 p4 HC11 HS10
  unfold reC
  try unfold noM
  clear hcv
  have HC13 := Lib.hid (st_doE0 HS11.out (by omega) (by omega) kpO kpO_ok m HM.out (opA 13 ⟨#[47, 97]⟩ ⟨#[]⟩ 0 0 0 9 0 none 0 0) rfl rfl (do_keep_busy d))
  go_wp2_with fail
  (with_reducible refine HC13.out.mono ?_)
  rintro e w13 ⟨o13, ⟨y13, rfl, da13, la13, dc13, lc13, rfl, p1, p2, p3, p4⟩, hs13, hS13⟩
  have HS13 := Lib.hid hS13
  have HR13 := Lib.hid (And.intro p1 (And.intro p2 (And.intro p3 p4)))
  have HFR14 := Lib.hid (miss HFR12.out (by omega) (fun e => by have := e.2; omega) hs13)
  clear HFR12
  clear hs13 hS13 p1 p2 p3 p4 HC13 HS11
  unfold reC
  try unfold noM
  have HC15 := Lib.hid (st_doE0 HS13.out (by omega) (by omega) tkO tkO_ok m HM.out (opA 14 ⟨#[]⟩ ⟨#[]⟩ 0 0 0 0 0 none 0 0) rfl rfl (do_take1 d))
  go_wp2_with fail
  (with_reducible refine HC15.out.mono ?_)
  rintro e w15 ⟨o15, ⟨y15, rfl, da15, la15, dc15, lc15, rfl, p1, p2, p3, p4⟩, hs15, hS15⟩
  have HS15 := Lib.hid hS15
  have HR15 := Lib.hid (And.intro p1 (And.intro p2 (And.intro p3 p4)))
  have HFR16 := Lib.hid (miss HFR14.out (by omega) (fun e => by have := e.2; omega) hs15)
  clear HFR14
  clear hs15 hS15 p1 p2 p3 p4 HC15 HS13
  go_wp2_with (refine wpList_store_rep (by rfl) 33 _ _ (by rfl) _ (reC ⟨0, 1, [], [], none⟩ da15 la15 dc15 lc15) (by rfl) (by rfl) _ (MapKept.heap_alloc _ _).1 repSize rfl (reC_one _ _ _ _ _) ?_; intro w17 hs17; have HW17 := Lib.hid hs17; clear hs17; obtain ⟨hv17, hb17⟩ := rep_var HS15.out.marks HR15.out.1 HR15.out.2.1 HR15.out.2.2.1 HR15.out.2.2.2 HW17.out; have HV17 := Lib.hid hv17; have HS18 := Lib.hid (HS15.out.grow hb17); clear HS15; clear hv17 hb17 HW17 HR15)
  have HC19 := Lib.hid (st_doE0 HS18.out (by omega) (by omega) (clO u) (clO_ok u (by omega)) m HM.out (opA 6 ⟨#[]⟩ ⟨#[]⟩ 0 0 0 u 0 none 0 0) rfl rfl (do_close2 d u (by omega)))
  (with_reducible refine HC19.out.mono ?_)
  rintro e w19 ⟨o19, ⟨y19, rfl, da19, la19, dc19, lc19, rfl, p1, p2, p3, p4⟩, hs19, hS19⟩
  have HS19 := Lib.hid hS19
  have HR19 := Lib.hid (And.intro p1 (And.intro p2 (And.intro p3 p4)))
  have HV20 := Lib.hid (HV17.out.five (by omega) hs19)
  clear HV17
  have HFR21 := Lib.hid (miss HFR16.out (by omega) (fun e => by have := e.2; omega) hs19)
  clear HFR16
  clear hs19 hS19 p1 p2 p3 p4 HC19 HS18
  go_wp2_with (refine wpList_store_rep (by rfl) 33 _ _ (by rfl) _ (reC (noM 0) da19 la19 dc19 lc19) (by rfl) (by rfl) _ (MapKept.heap_alloc _ _).1 repSize rfl (reC_one _ _ _ _ _) ?_; intro w22 hs22; have HW22 := Lib.hid hs22; clear hs22; obtain ⟨hv22, hb22⟩ := rep_var HS19.out.marks HR19.out.1 HR19.out.2.1 HR19.out.2.2.1 HR19.out.2.2.2 HW22.out; have HV22 := Lib.hid hv22; have HV23 := Lib.hid (HV20.out.grow HS19.out.marks hb22); clear HV20; have HS24 := Lib.hid (HS19.out.grow hb22); clear HS19; clear hv22 hb22 HW22 HR19)
  have HC25 := Lib.hid (st_doE0 HS24.out (by omega) (by omega) tkO tkO_ok m HM.out (opA 14 ⟨#[]⟩ ⟨#[]⟩ 0 0 0 0 0 none 0 0) rfl rfl (do_take2 d u))
  (with_reducible refine HC25.out.mono ?_)
  rintro e w25 ⟨o25, ⟨y25, rfl, da25, la25, dc25, lc25, rfl, p1, p2, p3, p4⟩, hs25, hS25⟩
  have HS25 := Lib.hid hS25
  have HR25 := Lib.hid (And.intro p1 (And.intro p2 (And.intro p3 p4)))
  have HV26 := Lib.hid (HV23.out.five (by omega) hs25)
  clear HV23
  have HV27 := Lib.hid (HV22.out.five (by omega) hs25)
  clear HV22
  have HFR28 := Lib.hid (miss HFR21.out (by omega) (fun e => by have := e.2; omega) hs25)
  clear HFR21
  clear hs25 hS25 p1 p2 p3 p4 HC25 HS24
  go_wp2_with (refine wpList_store_rep (by rfl) 33 _ _ (by rfl) _ (reC ⟨0, 2, [], [], none⟩ da25 la25 dc25 lc25) (by rfl) (by rfl) _ (MapKept.heap_alloc _ _).1 repSize rfl (reC_one _ _ _ _ _) ?_; intro w29 hs29; have HW29 := Lib.hid hs29; clear hs29; obtain ⟨hv29, hb29⟩ := rep_var HS25.out.marks HR25.out.1 HR25.out.2.1 HR25.out.2.2.1 HR25.out.2.2.2 HW29.out; have HV29 := Lib.hid hv29; have HV30 := Lib.hid (HV26.out.grow HS25.out.marks hb29); clear HV26; have HV31 := Lib.hid (HV27.out.grow HS25.out.marks hb29); clear HV27; have HS32 := Lib.hid (HS25.out.grow hb29); clear HS25; clear hv29 hb29 HW29 HR25; have c1 := HV30.out.n; dsimp only at c1)
  have HC33 := Lib.hid (st_doE0 HS32.out (by omega) (by omega) (stO 1) (stO_ok 1 (by omega)) m HM.out (opA 12 ⟨#[47, 97]⟩ ⟨#[]⟩ 0 0 0 0 1 none 0 0) rfl rfl (do_stat1 d u))
  (with_reducible refine HC33.out.mono ?_)
  rintro e w33 ⟨o33, ⟨y33, rfl, da33, la33, dc33, lc33, rfl, p1, p2, p3, p4⟩, hs33, hS33⟩
  have HS33 := Lib.hid hS33
  have HR33 := Lib.hid (And.intro p1 (And.intro p2 (And.intro p3 p4)))
  have HV34 := Lib.hid (HV30.out.five (by omega) hs33)
  clear HV30
  have HV35 := Lib.hid (HV31.out.five (by omega) hs33)
  clear HV31
  have HV36 := Lib.hid (HV29.out.five (by omega) hs33)
  clear HV29
  have HFR37 := Lib.hid (miss HFR28.out (by omega) (fun e => by have := e.2; omega) hs33)
  clear HFR28
  clear hs33 hS33 p1 p2 p3 p4 HC33 HS32
  go_wp2_with (refine wpList_store_rep (by rfl) 33 _ _ (by rfl) _ (reC (noM 20) da33 la33 dc33 lc33) (by rfl) (by rfl) _ (MapKept.heap_alloc _ _).1 repSize rfl (reC_one _ _ _ _ _) ?_; intro w38 hs38; have HW38 := Lib.hid hs38; clear hs38; obtain ⟨hv38, hb38⟩ := rep_var HS33.out.marks HR33.out.1 HR33.out.2.1 HR33.out.2.2.1 HR33.out.2.2.2 HW38.out; have HV38 := Lib.hid hv38; have HV39 := Lib.hid (HV34.out.grow HS33.out.marks hb38); clear HV34; have HV40 := Lib.hid (HV35.out.grow HS33.out.marks hb38); clear HV35; have HV41 := Lib.hid (HV36.out.grow HS33.out.marks hb38); clear HV36; have HS42 := Lib.hid (HS33.out.grow hb38); clear HS33; clear hv38 hb38 HW38 HR33; clear c1; have c1 := HV41.out.n; dsimp only at c1)
  have HC43 := Lib.hid (st_doE0 HS42.out (by omega) (by omega) (stO 2) (stO_ok 2 (by omega)) m HM.out (opA 12 ⟨#[47, 97]⟩ ⟨#[]⟩ 0 0 0 0 2 none 0 0) rfl rfl (do_stat2 d u))
  (with_reducible refine HC43.out.mono ?_)
  rintro e w43 ⟨o43, ⟨y43, rfl, da43, la43, dc43, lc43, rfl, p1, p2, p3, p4⟩, hs43, hS43⟩
  have HS43 := Lib.hid hS43
  have HR43 := Lib.hid (And.intro p1 (And.intro p2 (And.intro p3 p4)))
  have HV44 := Lib.hid (HV39.out.five (by omega) hs43)
  clear HV39
  have HV45 := Lib.hid (HV40.out.five (by omega) hs43)
  clear HV40
  have HV46 := Lib.hid (HV41.out.five (by omega) hs43)
  clear HV41
  have HV47 := Lib.hid (HV38.out.five (by omega) hs43)
  clear HV38
  have HFR48 := Lib.hid (miss HFR37.out (by omega) (fun e => by have := e.2; omega) hs43)
  clear HFR37
  clear hs43 hS43 p1 p2 p3 p4 HC43 HS42
  go_wp2_with (refine wpList_store_rep (by rfl) 33 _ _ (by rfl) _ (reC ⟨0, 0, [], [], some (1, ⟨1, 1, u, true, d, []⟩)⟩ da43 la43 dc43 lc43) (by rfl) (by rfl) _ (MapKept.heap_alloc _ _).1 repSize rfl (reC_one _ _ _ _ _) ?_; intro w49 hs49; have HW49 := Lib.hid hs49; clear hs49; obtain ⟨hv49, hb49⟩ := rep_var HS43.out.marks HR43.out.1 HR43.out.2.1 HR43.out.2.2.1 HR43.out.2.2.2 HW49.out; have HV49 := Lib.hid hv49; have HV50 := Lib.hid (HV44.out.grow HS43.out.marks hb49); clear HV44; have HV51 := Lib.hid (HV45.out.grow HS43.out.marks hb49); clear HV45; have HV52 := Lib.hid (HV46.out.grow HS43.out.marks hb49); clear HV46; have HV53 := Lib.hid (HV47.out.grow HS43.out.marks hb49); clear HV47; have HS54 := Lib.hid (HS43.out.grow hb49); clear HS43; clear hv49 hb49 HW49 HR43; clear c1)
  (with_reducible refine (st_settled HS54.out (by omega) 6 (by omega) HFR48.out).mono ?_)
  rintro e w55 ⟨pu, o55, rfl, hs55, hS55⟩
  rw [settled_one] at hS55
  have HS55 := Lib.hid hS55
  clear HFR48
  have HV56 := Lib.hid (HV50.out.five (by omega) hs55)
  clear HV50
  have HV57 := Lib.hid (HV51.out.five (by omega) hs55)
  clear HV51
  have HV58 := Lib.hid (HV52.out.five (by omega) hs55)
  clear HV52
  have HV59 := Lib.hid (HV53.out.five (by omega) hs55)
  clear HV53
  have HV60 := Lib.hid (HV49.out.five (by omega) hs55)
  clear HV49
  clear hs55 hS55 HS54
  have HC61 := Lib.hid (st_doE0 HS55.out (by omega) (by omega) (stO 0) (stO_ok 0 (by omega)) m HM.out (opA 12 ⟨#[47, 97]⟩ ⟨#[]⟩ 0 0 0 0 0 none 0 0) rfl rfl (do_stat3 d u))
  go_wp2_with fail
  (with_reducible refine HC61.out.mono ?_)
  rintro e w61 ⟨o61, ⟨y61, rfl, da61, la61, dc61, lc61, rfl, p1, p2, p3, p4⟩, hs61, hS61⟩
  have HS61 := Lib.hid hS61
  have HR61 := Lib.hid (And.intro p1 (And.intro p2 (And.intro p3 p4)))
  have HV62 := Lib.hid (HV56.out.five (by omega) hs61)
  clear HV56
  have HV63 := Lib.hid (HV57.out.five (by omega) hs61)
  clear HV57
  have HV64 := Lib.hid (HV58.out.five (by omega) hs61)
  clear HV58
  have HV65 := Lib.hid (HV59.out.five (by omega) hs61)
  clear HV59
  have HV66 := Lib.hid (HV60.out.five (by omega) hs61)
  clear HV60
  clear hs61 hS61 p1 p2 p3 p4 HC61 HS55
  go_wp2_with (refine wpList_store_rep (by rfl) 33 _ _ (by rfl) _ (reC ⟨0, 0, [], [], some (1, ⟨1, 1, u, true, d, []⟩)⟩ da61 la61 dc61 lc61) (by rfl) (by rfl) _ (MapKept.heap_alloc _ _).1 repSize rfl (reC_one _ _ _ _ _) ?_; intro w67 hs67; have HW67 := Lib.hid hs67; clear hs67; obtain ⟨hv67, hb67⟩ := rep_var HS61.out.marks HR61.out.1 HR61.out.2.1 HR61.out.2.2.1 HR61.out.2.2.2 HW67.out; have HV67 := Lib.hid hv67; have HV68 := Lib.hid (HV62.out.grow HS61.out.marks hb67); clear HV62; have HV69 := Lib.hid (HV63.out.grow HS61.out.marks hb67); clear HV63; have HV70 := Lib.hid (HV64.out.grow HS61.out.marks hb67); clear HV64; have HV71 := Lib.hid (HV65.out.grow HS61.out.marks hb67); clear HV65; have HV72 := Lib.hid (HV66.out.grow HS61.out.marks hb67); clear HV66; have HS73 := Lib.hid (HS61.out.grow hb67); clear HS61; clear hv67 hb67 HW67 HR61; have x1 := HV69.out.er; have x2 := HV71.out.er; have x3 := HV72.out.er; obtain ⟨y4, y5, y6, y7, y8, y9⟩ := HV72.out.nd 1 ⟨1, 1, u, true, d, []⟩ rfl; obtain ⟨z4, z5, z6, z7, z8, z9⟩ := HV67.out.nd 1 ⟨1, 1, u, true, d, []⟩ rfl; unfold noM at x1 x2; dsimp only at x1 x2 x3 y4 y5 y6 y7 y8 y9 z4 z5 z6 z7 z8 z9)
  clear x1 x2 x3 y4 y5 y6 y7 y8 y9 z4 z5 z6 z7 z8 z9
  have hbW := HS73.out.below
  have hmr : w67.cell? ⟨0, 0, none⟩ = some (.int .i64 m) := (hbW.cell (p := ⟨0, 0, none⟩) (World.block_lt_of_cell? W _ HM.out)).trans HM.out
  have HK := Lib.hid (known14_any w67 m hmr)
  (with_reducible refine HK.out.mono ?_)
  rintro e w2 ⟨rfl, hb2⟩
  go_wp2_with fail
  go_ret
  exact ⟨rfl, hbW.trans (hb2.mono hbW.size)⟩
end Go.Proofs.YtpgklnhkfgbpgaaGreatDoor.stateOpenFiles
