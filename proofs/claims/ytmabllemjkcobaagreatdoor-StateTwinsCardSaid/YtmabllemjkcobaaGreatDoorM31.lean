/- package state: create. package state: at, node. package state: node. package state: look. -/
import Derived.Test.YtmabllemjkcobaaGreatDoorM30
import Derived.Test.YtmabllemjkcobaaGreatDoorM17
import Derived.Test.YtmabllemjkcobaaGreatDoorM20
namespace Go.Proofs.YtmabllemjkcobaaGreatDoor
open Go.ChangeShapes Go.WideShapes Go.ChangeAt Go.RowKit
set_option linter.unusedVariables false
set_option linter.unusedSimpArgs false

def freeI (M : StM) : Int := match (List.range 8).find? (fun n => (M.fds n).isNone) with | some n => n | none => -1
theorem FreeR.eq {M : StM} {v : Int} (h : FreeR M v) : v = freeI M := by
  unfold freeI
  rcases h with ⟨rfl, h⟩ | ⟨n, hn, rfl, h1, h2⟩
  · have : (List.range 8).find? (fun n => (M.fds n).isNone) = none := by
      rw [List.find?_eq_none]
      intro n hn
      rw [List.mem_range] at hn
      have := h n hn
      cases hf : M.fds n with
      | none => exact absurd hf this
      | some f => simp
    rw [this]
  · have : (List.range 8).find? (fun n => (M.fds n).isNone) = some n := by
      have e : List.range 8 = List.range n ++ n :: (List.range (8 - (n + 1))).map (· + (n + 1)) := by
        rcases (show n = 0 ∨ n = 1 ∨ n = 2 ∨ n = 3 ∨ n = 4 ∨ n = 5 ∨ n = 6 ∨ n = 7 by omega) with rfl | rfl | rfl | rfl | rfl | rfl | rfl | rfl <;> rfl
      rw [e, List.find?_append]
      have e1 : (List.range n).find? (fun n => (M.fds n).isNone) = none := by
        rw [List.find?_eq_none]
        intro m hm
        rw [List.mem_range] at hm
        have := h2 m hm
        cases hf : M.fds m with
        | none => exact absurd hf this
        | some f => simp
      rw [e1, List.find?_cons_of_pos (by rw [h1]; rfl)]
      rfl
    rw [this]
def screateM (M : StM) (ls : List Nm) : ReM × StM :=
  if freeI M < 0 then (noM 25, M) else
  if (makeM M.t ls 1).1.2 ≠ 0 then (noM (makeM M.t ls 1).1.2, { M with t := (makeM M.t ls 1).2 }) else
  (⟨0, freeI M, [], [], none⟩, StM.put { M with t := (makeM M.t ls 1).2 } (freeI M).toNat (some ⟨true, (makeM M.t ls 1).1.1, []⟩))
section
variable {W w : World} {o : Mark} {i j k l p : Nat} {M : StM}
set_option maxRecDepth 100000 in
set_option maxHeartbeats 8000000 in
theorem screate_any {S : Nat → Prop} (hS : StateO o i j k w p M) (hM : Marks W o w) (hk : Mk i j k l) (hok : OkM M.t) (a : Option Addr) (n c : Nat) (ls : List Nm) (hls : StrsAt S w a n (ls.map strOf)) (hnc : n ≤ c) (hn8 : n ≤ 1000000) :
    Calls Tryz.prog 38 #[ptr p, .slice a n c] w (StRet o i j k l w p (screateM M ls)) := by
  have HKK := Lib.hid hk
  have HOK := Lib.hid hok
  have HM := Lib.hid hM
  have HS := Lib.hid hS
  have HLS := Lib.hid hls
  obtain ⟨w2, hw2⟩ : ∃ w2, w2 = w.alloc (.cells (reC (noM 0) none none 0 0) 36) := ⟨_, rfl⟩
  have hb2 : Below w.heap.size w w2 := by rw [hw2]; exact wall w _
  have hre : w2.heap[w.heap.size]? = some (.cells (reC (noM 0) none none 0 0) 36 (0, 0)) := by rw [hw2]; exact (MapKept.heap_alloc w _).1
  obtain ⟨n1, n2, n3, n4, n5, n6, n7, n8, n9, n10⟩ := hk.ne
  obtain ⟨o1, hs1, hl1, hl2⟩ := mark_new HM.out l (fun b => b = w.heap.size) (w' := w2) (fun b hb => by subst hb; exact ⟨Nat.le_refl _, (Array.getElem?_eq_some_iff.1 hre).1⟩) hb2
  have hS1 : StateO o1 i j k w2 p M := HS.out.step (fun e => n4 e.symm) n7 n9 n10 hs1
  have hM1 : Marks W o1 w2 := HM.out.step (fun e => n4 e.symm) hs1
  have HC2 : Hid (Calls Tryz.prog 95 #[ptr p] (w.alloc (.cells (reC (noM 0) none none 0 0) 36)) fun e w'' => ∃ v, e = .returned (.int .i64 v) ∧ FreeR M v ∧ w'' = w2) := by rw [← hw2]; exact Lib.hid (free_any hS1)
  unfold reC noM at HC2
  dsimp only [List.length_nil] at HC2
  have HRE := Lib.hid hre
  have HB2 := Lib.hid hb2
  have HS1 := Lib.hid hS1
  have HM1 := Lib.hid hM1
  have HL1 := Lib.hid (hl1 _ rfl)
  have HST1 := Lib.hid hs1
  clear hS hM hk hok hls hre hb2 hw2 hS1 hM1 hl1 hl2 hs1
  go_enter Tryz.func38, Tryz.ntmps38
  go_wp2_with fail
  (with_reducible refine HC2.out.mono ?_)
  rintro e w3 ⟨v, rfl, hfr, rfl⟩
  have hv := hfr.eq
  clear HC2
  rcases hfr with ⟨rfl, hfull⟩ | ⟨m, hm8, rfl, hfm, hfl⟩
  · have hr : screateM M ls = (noM 25, M) := by unfold screateM; rw [← hv, if_pos (by omega)]
    have HRR := Lib.hid hr
    clear hr hv hfull
    go_wp2_with fail
    (with_reducible refine (no_any _ _).mono ?_)
    rintro e w4 ⟨rfl, hb4⟩
    unfold noV
    have HB4 := Lib.hid hb4
    have HR4 := Lib.hid ((hb4.block _ (Array.getElem?_eq_some_iff.1 HRE.out).1).trans HRE.out)
    clear hb4
    go_wp2_with (refine wpList_store_rep (by rfl) 36 _ _ (by rfl) w.heap.size (reC (noM 25) none none 0 0) (by rfl) (by rfl) _ HR4.out repSize rfl (reC_one _ _ _ _ _) ?_; intro w5 hs5; have HS5 := Lib.hid hs5; clear hs5)
    refine ret_rep rfl rfl rfl HS5.out.1 ?_
    rw [HRR.out]
    have hM4 := HM1.out.step (I := fun _ => False) (fun e => e) (Step.grow HM1.out HB4.out)
    have hst := HS5.out.step hM4 HL1.out
    exact ⟨o1, ⟨_, rfl, ReplyAt.no_ _ _ _⟩, ((HST1.out.trans (Step.grow HM1.out HB4.out)).trans hst).mono fun m hm => .inr (.inr (.inr hm)), (HS1.out.grow HM1.out HB4.out).step (fun e => n4 e.symm) n7 n9 n10 hst⟩
  · have hneg : ¬ ((m : Int) < 0) := by omega
    have hdn : decide ((m : Int) < 0) = false := by simp
    obtain ⟨t, s, vv, h1, h2, h3, h4⟩ := HS1.out.at_
    obtain ⟨z0, z1, z2, z3, z4⟩ := st_cells h1
    have HMK := Lib.hid (om_make h3 HM1.out n2 HOK.out a n c ls 1 (HLS.out.below HB2.out (Nat.le_refl _)) hnc hn8)
    have hr : screateM M ls = if (makeM M.t ls 1).1.2 ≠ 0 then (noM (makeM M.t ls 1).1.2, { M with t := (makeM M.t ls 1).2 }) else (⟨0, m, [], [], none⟩, StM.put { M with t := (makeM M.t ls 1).2 } m (some ⟨true, (makeM M.t ls 1).1.1, []⟩)) := by
      unfold screateM
      rw [← hv, if_neg hneg]
      rfl
    have HRR := Lib.hid hr
    obtain ⟨T2, hT2⟩ : ∃ T2, T2 = (makeM M.t ls 1).2 := ⟨_, rfl⟩
    obtain ⟨ae, hae⟩ : ∃ ae, ae = (makeM M.t ls 1).1.2 := ⟨_, rfl⟩
    obtain ⟨ai, hai⟩ : ∃ ai, ai = (makeM M.t ls 1).1.1 := ⟨_, rfl⟩
    rw [← hae, ← hT2, ← hai] at HMK HRR
    have HH1 := Lib.hid h1
    have HH2 := Lib.hid h2
    have HH4 := Lib.hid h4
    have hps := HS1.out.low
    have hgs := (Array.getElem?_eq_some_iff.1 HRE.out).1
    have HGS := Lib.hid hgs
    clear hr hv hfm hfl hT2 hae hai h1 h2 h3 h4 z1 z2 z3 z4
    go_wp2_with fail
    (with_reducible refine HMK.out.mono ?_)
    rintro e w4 ⟨rfl, o4, hs4, hT4⟩
    have h0j : ¬ (fun m => m = j) 0 := fun e => n2 e.symm
    have hr4 := (hs4.block (b := w.heap.size) HGS.out (by rw [HL1.out]; exact fun e => n9 e.symm)).trans HRE.out
    have hS4 := StateO.tree (M := M) HKK.out HH1.out HH2.out HH4.out HS1.out.own hps hs4 hT4
    have hM4 := HM1.out.step h0j hs4
    have HS4 := Lib.hid hS4
    have HM4 := Lib.hid hM4
    have HL4 := Lib.hid ((hs4.old _ HGS.out).trans HL1.out)
    have HR4 := Lib.hid hr4
    have HST4 := Lib.hid ((HST1.out.mono (J := fun m => m = i ∨ m = j ∨ m = k ∨ m = l) fun m hm => .inr (.inr (.inr hm))).trans (hs4.mono fun m hm => .inr (.inl hm)))
    by_cases hz : ae = 0
    · have HZ := Lib.hid hz
      have hz2 : (ae != 0) = false := by simpa using hz
      clear hz hr4 hM4 hs4 hT4 z0 hneg hdn
      obtain ⟨t', s', v', k1, k2, k3, k4⟩ := hS4.at_
      have hbo : Below w4.heap.size w4 (w4.alloc (.cells #[.bool true, .int .i64 ai, .slice none 0 0] 141)) := wall w4 _
      have HM5 := Lib.hid (HM4.out.step (I := fun _ => False) (fun e => e) (Step.grow HM4.out hbo))
      have hS5 := HS4.out.grow HM4.out hbo
      have hfree : o4 w4.heap.size = 0 := Decidable.byContradiction fun h9 => by have := (HM4.out.new _ h9).2; omega
      have HPUT := Lib.hid (hS5.put HM5.out HKK.out m hm8 (ptr w4.heap.size) (some ⟨true, ai, []⟩) ⟨w4.heap.size, none, 0, rfl, hfree, by simp, (MapKept.heap_alloc w4 _).1, Nat.le_refl _, RowAt.nil _ _ _⟩)
      have k1' := (hbo.block p HS4.out.low).trans k1
      obtain ⟨y0, y1, y2, y3, y4⟩ := st_cells k1'
      have hzm := y3 m hm8
      have hzf := y4 (3 + m)
      have HR5 : Hid (((w4.alloc (.cells #[.bool true, .int .i64 ai, .slice none 0 0] 141)).setCell ⟨p, 3 + m, none⟩ (ptr w4.heap.size)).heap[w.heap.size]? = some (.cells (reC (noM 0) none none 0 0) 36 (0, 0))) := Lib.hid ((HPUT.out.1.block (b := w.heap.size) (Nat.lt_of_lt_of_le (Array.getElem?_eq_some_iff.1 HR4.out).1 hbo.size) (by rw [HL4.out]; exact fun e => n10 e.symm)).trans ((hbo.block _ (Array.getElem?_eq_some_iff.1 HR4.out).1).trans HR4.out))
      have i0 : (0 : Int) ≤ m := by omega
      have i1 : (m : Int) < 8 := by omega
      have HBO := Lib.hid hbo
      clear k1 k2 k3 k4 hS5 hfree k1' y0 y1 y2 y3 y4 hS4 hbo
      go_wp2_with (refine wpList_store_rep (by rfl) 36 _ _ (by rfl) w.heap.size (reC ⟨0, m, [], [], none⟩ none none 0 0) (by rfl) (by rfl) _ HR5.out repSize rfl (reC_one _ _ _ _ _) ?_; intro w6 hs6; have HS6 := Lib.hid hs6; clear hs6)
      refine ret_rep rfl rfl rfl HS6.out.1 ?_
      rw [HRR.out, if_neg (fun h => h HZ.out)]
      have hM6 := HM5.out.step (I := fun m => m = k) (fun e => n3 e.symm) HPUT.out.1
      have hst := HS6.out.step hM6 HL4.out
      refine ⟨o4, ⟨_, rfl, none, none, 0, 0, rfl, Nat.le_refl _, Nat.le_refl _, RowAt.nil _ _ _, strs_nil _ _⟩, ((HST4.out.trans (Step.grow HM4.out HBO.out)).trans (HPUT.out.1.mono fun m hm => .inr (.inr (.inl hm)))).trans (hst.mono fun m hm => .inr (.inr (.inr hm))), HPUT.out.2.step (fun e => n4 e.symm) n7 n9 n10 hst⟩
    · have HZ := Lib.hid hz
      have hz2 : (ae != 0) = true := by simpa using hz
      clear hz hr4 hM4 hs4 hT4 z0 hS4
      go_wp2_with fail
      (with_reducible refine (no_any _ _).mono ?_)
      rintro e w5 ⟨rfl, hb5⟩
      unfold noV
      have HB5 := Lib.hid hb5
      have HR5 := Lib.hid ((hb5.block _ (Array.getElem?_eq_some_iff.1 HR4.out).1).trans HR4.out)
      clear hb5
      go_wp2_with (refine wpList_store_rep (by rfl) 36 _ _ (by rfl) w.heap.size (reC (noM ae) none none 0 0) (by rfl) (by rfl) _ HR5.out repSize rfl (reC_one _ _ _ _ _) ?_; intro w6 hs6; have HS6 := Lib.hid hs6; clear hs6)
      refine ret_rep rfl rfl rfl HS6.out.1 ?_
      rw [HRR.out, if_pos HZ.out]
      have hM5 := HM4.out.step (I := fun _ => False) (fun e => e) (Step.grow HM4.out HB5.out)
      have hst := HS6.out.step hM5 HL4.out
      exact ⟨o4, ⟨_, rfl, ReplyAt.no_ _ _ _⟩, (HST4.out.trans (Step.grow HM4.out HB5.out)).trans (hst.mono fun m hm => .inr (.inr (.inr hm))), (HS4.out.grow HM4.out HB5.out).step (fun e => n4 e.symm) n7 n9 n10 hst⟩
end
end Go.Proofs.YtmabllemjkcobaaGreatDoor
namespace Go.Proofs.YtmabllemjkcobaaGreatDoor
open Go.ChangeShapes Go.WideShapes Go.ChangeAt Go.RowKit
set_option linter.unusedVariables false
set_option linter.unusedSimpArgs false

/-- The tree that is asked: now's of 0, or a snapshot's. -/
def treeAtM (M : StM) (id : Int) : Option TrM := if id = 0 then some M.t else (findM M.s id).map (·.t)
def AtRet (o : Mark) (j : Nat) (w : World) (M : StM) (id : Int) (e : Ending) (w' : World) : Prop :=
  Below w.heap.size w w' ∧ ((treeAtM M id = none ∧ e = .returned (.tuple #[.pointer none, .int .i64 29])) ∨ ∃ T q, treeAtM M id = some T ∧ e = .returned (.tuple #[ptr q, .int .i64 0]) ∧ (∃ m, TreeO o m w' q T) ∧ OkM T)
section
variable {W w : World} {o : Mark} {i j k l p : Nat} {M : StM}
set_option maxRecDepth 100000 in
set_option maxHeartbeats 4000000 in
theorem at_any (hS : StateO o i j k w p M) (hM : Marks W o w) (hok : OkM M.t) (hl8 : M.s.l.length ≤ 1000) (id : Int) : Calls Tryz.prog 96 #[ptr p, .int .i64 id] w (AtRet o j w M id) := by
  obtain ⟨t, s, v, h1, h2, h3, h4⟩ := hS.at_
  obtain ⟨z0, z1, z2, z3, z4⟩ := st_cells h1
  by_cases h0 : id = 0
  · subst h0
    have HT := Lib.hid h3
    have HOK := Lib.hid hok
    clear hS hM hok hl8 h1 h2 h3 h4 z1 z2 z3 z4
    go_enter Tryz.func96, Tryz.ntmps96
    go_wp2_with fail
    go_ret2
    exact ⟨Below.refl _ _, .inr ⟨M.t, t, if_pos rfl, rfl, ⟨j, HT.out⟩, HOK.out⟩⟩
  · have hd : (id == 0) = false := by simpa using h0
    have HG := Lib.hid (get_any h2 hM hl8 id)
    have H0 := Lib.hid h0
    clear hS hM hok hl8 h1 h2 h3 h4 z0 z2 z3 z4 h0
    go_enter Tryz.func96, Tryz.ntmps96
    go_wp2_with fail
    (with_reducible refine HG.out.mono ?_)
    rintro e w1 ⟨hb1, hg⟩
    have HB1 := Lib.hid hb1
    clear hb1
    rcases hg with ⟨hf, rfl⟩ | ⟨x, q, hf, rfl, hT, hOk⟩
    · have hr : treeAtM M id = none := by unfold treeAtM; rw [if_neg H0.out, hf]; rfl
      have HRR := Lib.hid hr
      clear hf hr
      go_wp2_with fail
      go_ret2
      exact ⟨HB1.out, .inl ⟨HRR.out, rfl⟩⟩
    · have hr : treeAtM M id = some x.t := by unfold treeAtM; rw [if_neg H0.out, hf]; rfl
      have HRR := Lib.hid hr
      have HT := Lib.hid hT
      have HOK := Lib.hid hOk
      clear hf hr hT hOk
      go_wp2_with fail
      go_ret2
      exact ⟨HB1.out, .inr ⟨x.t, q, HRR.out, rfl, ⟨0, HT.out⟩, HOK.out⟩⟩
end
end Go.Proofs.YtmabllemjkcobaaGreatDoor
namespace Go.Proofs.YtmabllemjkcobaaGreatDoor
open Go.ChangeShapes Go.WideShapes Go.ChangeAt Go.RowKit
set_option linter.unusedVariables false
set_option linter.unusedSimpArgs false

def nodeC6 (k : Int) (x : ItM) : Array Value := #[.int .i64 k, .int .i64 x.kind, .int .i64 x.links, .int .i64 x.b.length, .int .u64 x.til, .bool x.closed]
/-- What 'node' gives. -/
def nodeAtM (T : TrM) (ls : List Nm) : Array Value × Int := if (lookE T ls).2 ≠ 0 then (node0, (lookE T ls).2) else match aget (lookE T ls).1 T with | some x => (nodeC6 (lookE T ls).1 x, 0) | none => (node0, 0)
section
variable {W w : World} {o : Mark} {i j k l p : Nat} {M : StM}
set_option maxRecDepth 100000 in
set_option maxHeartbeats 4000000 in
theorem snode_any {S : Nat → Prop} (hS : StateO o i j k w p M) (hM : Marks W o w) (hok : OkM M.t) (a : Option Addr) (n c : Nat) (ls : List Nm) (hls : StrsAt S w a n (ls.map strOf)) (hid : (Lit.int .i64 (lookE M.t ls).1).wf = true) :
    Calls Tryz.prog 105 #[ptr p, .slice a n c] w fun e w' => e = .returned (.tuple #[.agg (nodeAtM M.t ls).1, .int .i64 (nodeAtM M.t ls).2]) ∧ Below w.heap.size w w' := by
  obtain ⟨t, s, v, h1, h2, h3, h4⟩ := hS.at_
  obtain ⟨z0, z1, z2, z3, z4⟩ := st_cells h1
  have hlow := hS.low
  obtain ⟨w2, hw2⟩ : ∃ w2, w2 = w.alloc (.cells node0 34) := ⟨_, rfl⟩
  have hb2 : Below w.heap.size w w2 := by rw [hw2]; exact wall w _
  have hre : w2.heap[w.heap.size]? = some (.cells node0 34 (0, 0)) := by rw [hw2]; exact (MapKept.heap_alloc w _).1
  obtain ⟨g, D, mb, ib, nb, hA, hg, hD⟩ := h3.grow hb2
  have HLK : Hid (Calls Tryz.prog 97 #[ptr t, .slice a n c] (w.alloc (.cells node0 34)) fun e w' => e = .returned (.tuple #[.int .i64 (lookE M.t ls).1, .int .i64 (lookE M.t ls).2]) ∧ Below w2.heap.size w2 w') := by
    rw [← hw2]; exact Lib.hid (Look_at a n c ls w2 hA hok (hls.below hb2 (Nat.le_refl _)))
  unfold node0 at HLK
  have HND : Hid (∀ w', Below w2.heap.size w2 w' → Calls Tryz.prog 98 #[ptr t, .int .i64 (lookE M.t ls).1] w' fun e w'' => e = .returned (.tuple #[nodeM M.t (lookE M.t ls).1, .bool (aget (lookE M.t ls).1 M.t).isSome]) ∧ Below w'.heap.size w' w'') := fun w' hb => node_any _ w' (hA.below hb (Nat.le_refl _)) hid
  have HP : Hid (∀ w', Below w2.heap.size w2 w' → w'.cell? ⟨p, 0, none⟩ = some (ptr t)) := fun w' hb => ((hb2.trans (hb.mono hb2.size)).cell (p := ⟨p, 0, none⟩) hlow).trans z0
  have HRE := Lib.hid hre
  have HB2 := Lib.hid hb2
  have hgs := (Array.getElem?_eq_some_iff.1 hre).1
  clear hS hM hok hls hid h1 h2 h3 h4 z1 z2 z3 z4 hw2 hb2 hre hA hg hD
  obtain ⟨ki, hki⟩ : ∃ ki, ki = (lookE M.t ls).1 := ⟨_, rfl⟩
  obtain ⟨ke, hke⟩ : ∃ ke, ke = (lookE M.t ls).2 := ⟨_, rfl⟩
  rw [← hki, ← hke] at HLK
  rw [← hki] at HND
  have HR : Hid (nodeAtM M.t ls = if ke ≠ 0 then (node0, ke) else match aget ki M.t with | some x => (nodeC6 ki x, 0) | none => (node0, 0)) := by
    unfold nodeAtM; rw [← hki, ← hke]; exact Lib.hid rfl
  clear hki hke
  go_enter Tryz.func105, Tryz.ntmps105
  go_wp2_with fail
  (with_reducible refine HLK.out.mono ?_)
  rintro e w3 ⟨rfl, hb3⟩
  have HB3 := Lib.hid hb3
  have HR3 := Lib.hid ((hb3.block _ hgs).trans HRE.out)
  have q0 := HP.out _ hb3
  by_cases hz : ke = 0
  · have HZ := Lib.hid hz
    have hz2 : (ke != 0) = false := by simpa using hz
    have HN := Lib.hid (HND.out _ hb3)
    clear hz hb3
    cases ha : aget ki M.t with
    | none =>
      have hnm : nodeM M.t ki = .agg #[.int .i64 0, .int .i64 0, .int .i64 0, .int .i64 0, .int .u64 0, .bool false] := by unfold nodeM; rw [ha]
      rw [hnm] at HN
      have HA := Lib.hid ha
      clear ha hnm
      go_wp2_with fail
      (with_reducible refine HN.out.mono ?_)
      rintro e w4 ⟨rfl, hb4⟩
      have HB4 := Lib.hid hb4
      have HB5 : Hid (Below w3.heap.size w3 (w4.alloc (.cells (node0) 34))) := Lib.hid (hb4.trans ((wall _ _).mono hb4.size))
      have HR5 : Hid ((w4.alloc (.cells (node0) 34)).heap[w.heap.size]? = some (.cells node0 34 (0, 0))) := Lib.hid ((HB5.out.block _ (Array.getElem?_eq_some_iff.1 HR3.out).1).trans HR3.out)
      clear hb4
      go_wp2_with (refine wpList_store_rep (by rfl) 34 _ _ (by rfl) w.heap.size (node0) (by rfl) (by rfl) _ HR5.out nodeSize rfl (by simp [node0, nodeC6, Value.oneCell']) ?_; intro w6 hs6; have HS6 := Lib.hid hs6; clear hs6)
      refine ret_node rfl rfl rfl rfl HS6.out.1 rfl ?_
      rw [HR.out, if_neg (fun h => h HZ.out), HA.out]
      exact ⟨rfl, HS6.out.below (HB2.out.trans ((HB3.out.trans (HB5.out.mono HB3.out.size)).mono HB2.out.size)) (Nat.le_refl _)⟩
    | some x =>
      have hnm : nodeM M.t ki = .agg #[.int .i64 ki, .int .i64 x.kind, .int .i64 x.links, .int .i64 x.b.length, .int .u64 x.til, .bool x.closed] := by unfold nodeM; rw [ha]; rfl
      rw [hnm] at HN
      have HA := Lib.hid ha
      clear ha hnm
      go_wp2_with fail
      (with_reducible refine HN.out.mono ?_)
      rintro e w4 ⟨rfl, hb4⟩
      have HB4 := Lib.hid hb4
      have HB5 : Hid (Below w3.heap.size w3 (w4.alloc (.cells (nodeC6 ki x) 34))) := Lib.hid (hb4.trans ((wall _ _).mono hb4.size))
      have HR5 : Hid ((w4.alloc (.cells (nodeC6 ki x) 34)).heap[w.heap.size]? = some (.cells node0 34 (0, 0))) := Lib.hid ((HB5.out.block _ (Array.getElem?_eq_some_iff.1 HR3.out).1).trans HR3.out)
      clear hb4
      go_wp2_with (refine wpList_store_rep (by rfl) 34 _ _ (by rfl) w.heap.size (nodeC6 ki x) (by rfl) (by rfl) _ HR5.out nodeSize rfl (by simp [node0, nodeC6, Value.oneCell']) ?_; intro w6 hs6; have HS6 := Lib.hid hs6; clear hs6)
      refine ret_node rfl rfl rfl rfl HS6.out.1 rfl ?_
      rw [HR.out, if_neg (fun h => h HZ.out), HA.out]
      exact ⟨rfl, HS6.out.below (HB2.out.trans ((HB3.out.trans (HB5.out.mono HB3.out.size)).mono HB2.out.size)) (Nat.le_refl _)⟩
  · have HZ := Lib.hid hz
    have hz2 : (ke != 0) = true := by simpa using hz
    clear hz hb3
    go_wp2_with (refine wpList_store_rep (by rfl) 34 _ _ (by rfl) w.heap.size node0 (by rfl) (by rfl) _ HR3.out nodeSize rfl (by simp [node0, Value.oneCell']) ?_; intro w5 hs5; have HS5 := Lib.hid hs5; clear hs5)
    refine ret_node rfl rfl rfl rfl HS5.out.1 rfl ?_
    rw [HR.out, if_pos HZ.out]
    exact ⟨rfl, HS5.out.below (HB2.out.trans (HB3.out.mono HB2.out.size)) (Nat.le_refl _)⟩
end
end Go.Proofs.YtmabllemjkcobaaGreatDoor
namespace Go.Proofs.YtmabllemjkcobaaGreatDoor
open Go.ChangeShapes Go.WideShapes Go.ChangeAt Go.RowKit
set_option linter.unusedVariables false
set_option linter.unusedSimpArgs false

def lookT (T : TrM) (kind : Int) (ls : List Nm) : ReM :=
  if (lookE T ls).2 ≠ 0 then noM (lookE T ls).2 else
  if kind = 12 then ⟨0, 0, [], [], (aget (lookE T ls).1 T).map fun x => ((lookE T ls).1, x)⟩ else ⟨(listM T (lookE T ls).1).2, (listM T (lookE T ls).1).1.length, [], (listM T (lookE T ls).1).1, none⟩
def slookM (M : StM) (x : OpM) (ls : List Nm) : ReM := match treeAtM M x.snap with
  | none => noM 29
  | some T => lookT T x.kind ls
section
variable {W w : World} {o : Mark} {i j k l p : Nat} {M : StM}
set_option maxRecDepth 100000 in
set_option maxHeartbeats 8000000 in
theorem slook_any {S : Nat → Prop} (hS : StateO o i j k w p M) (hM : Marks W o w) (hok : OkM M.t) (hl8 : M.s.l.length ≤ 1000) (x : OpM) (da : Option Addr) (dc : Nat) (a : Option Addr) (n c : Nat) (ls : List Nm) (hls : StrsAt S w a n (ls.map strOf)) (hid : ∀ T, treeAtM M x.snap = some T → (Lit.int .i64 (lookE T ls).1).wf = true) :
    Calls Tryz.prog 47 #[ptr p, .agg (opC x da dc), .slice a n c] w fun e w' => RepRet o (slookM M x ls) e w' ∧ Below w.heap.size w w' := by
  obtain ⟨w2, hw2⟩ : ∃ w2, w2 = (w.alloc (.cells (opC x da dc) 28)).alloc (.cells (reC (noM 0) none none 0 0) 36) := ⟨_, rfl⟩
  have hb2 : Below w.heap.size w w2 := by rw [hw2]; exact (wall w _).trans ((wall _ _).mono (by simp))
  have hop : w2.heap[w.heap.size]? = some (.cells (opC x da dc) 28 (0, 0)) := by
    rw [hw2]
    exact ((wall _ _).block _ (by simp)).trans (MapKept.heap_alloc w _).1
  have hre : w2.heap[w.heap.size + 1]? = some (.cells (reC (noM 0) none none 0 0) 36 (0, 0)) := by
    rw [hw2]
    have := (MapKept.heap_alloc (w.alloc (.cells (opC x da dc) 28)) (.cells (reC (noM 0) none none 0 0) 36)).1
    rw [World.size_alloc] at this
    exact this
  have hM2 := hM.step (I := fun _ => False) (fun e => e) (Step.grow hM hb2)
  have HAT : Hid (Calls Tryz.prog 96 #[ptr p, .int .i64 x.snap] ((w.alloc (.cells (opC x da dc) 28)).alloc (.cells (reC (noM 0) none none 0 0) 36)) (AtRet o j w2 M x.snap)) := by
    rw [← hw2]; exact Lib.hid (at_any (hS.grow hM hb2) hM2 hok hl8 x.snap)
  unfold opC reC noM at HAT
  dsimp only [List.length_nil] at HAT
  have HLS := Lib.hid (hls.below hb2 (Nat.le_refl _))
  have HOP := Lib.hid hop
  have HRE := Lib.hid hre
  have HB2 := Lib.hid hb2
  have HID := Lib.hid hid
  have HM2 := Lib.hid hM2
  have hop0 : Hid (∀ w', Below w2.heap.size w2 w' → w'.cell? ⟨w.heap.size, 0, none⟩ = some (.int .i64 x.kind)) := fun w' hb => by
    have := (hb.block _ (Array.getElem?_eq_some_iff.1 hop).1).trans hop
    simp [World.cell?, this, opC]
  clear hS hM hok hl8 hls hid hw2 hb2 hop hre hM2
  unfold opC
  go_enter Tryz.func47, Tryz.ntmps47
  go_wp2_with fail
  (with_reducible refine HAT.out.mono ?_)
  rintro e w3 ⟨hb3, hat⟩
  have HB3 := Lib.hid hb3
  have HR3 := Lib.hid ((hb3.block _ (Array.getElem?_eq_some_iff.1 HRE.out).1).trans HRE.out)
  rcases hat with ⟨hT, rfl⟩ | ⟨T, q, hT, rfl, ⟨m, hTr⟩, hOk⟩
  · have hr : slookM M x ls = noM 29 := by unfold slookM; rw [hT]
    have HRR := Lib.hid hr
    clear hr hT hb3
    go_wp2_with fail
    (with_reducible refine (no_any _ _).mono ?_)
    rintro e w4 ⟨rfl, hb4⟩
    unfold noV
    have HB4 := Lib.hid (HB2.out.trans ((HB3.out.trans (hb4.mono HB3.out.size)).mono HB2.out.size))
    have HR4 := Lib.hid ((hb4.block _ (Array.getElem?_eq_some_iff.1 HR3.out).1).trans HR3.out)
    clear hb4
    go_wp2_with (refine wpList_store_rep (by rfl) 36 _ _ (by rfl) (w.heap.size + 1) (reC (noM 29) none none 0 0) (by rfl) (by rfl) _ HR4.out repSize rfl (reC_one _ _ _ _ _) ?_; intro w5 hs5; have HS5 := Lib.hid hs5; clear hs5)
    refine ret_rep rfl rfl rfl HS5.out.1 ⟨⟨_, rfl, ?_⟩, HS5.out.below HB4.out (by omega)⟩
    rw [HRR.out]
    exact ReplyAt.no_ _ _ _
  · obtain ⟨g, D, mb, ib, nb, hA, -, -⟩ := hTr
    have hid := HID.out T hT
    have HLK := Lib.hid (Look_at a n c ls w3 hA hOk (HLS.out.below hb3 (Nat.le_refl _)))
    have HND : Hid (∀ w', Below w3.heap.size w3 w' → Calls Tryz.prog 98 #[ptr q, .int .i64 (lookE T ls).1] w' fun e w'' => e = .returned (.tuple #[nodeM T (lookE T ls).1, .bool (aget (lookE T ls).1 T).isSome]) ∧ Below w'.heap.size w' w'') := fun w' hb => node_any _ w' (hA.below hb (Nat.le_refl _)) hid
    have HLI : Hid (∀ w', Below w3.heap.size w3 w' → Calls Tryz.prog 110 #[ptr q, .int .i64 (lookE T ls).1] w' (NewList w' (listM T (lookE T ls).1))) := fun w' hb => list_at _ w' (hA.below hb (Nat.le_refl _)) hOk hid
    have hr : slookM M x ls = lookT T x.kind ls := by unfold slookM; rw [hT]
    unfold lookT at hr
    have HRR := Lib.hid hr
    have HB33 := Lib.hid hb3
    clear hr hT hA hOk hid hb3
    obtain ⟨ki, hki⟩ : ∃ ki, ki = (lookE T ls).1 := ⟨_, rfl⟩
    obtain ⟨ke, hke⟩ : ∃ ke, ke = (lookE T ls).2 := ⟨_, rfl⟩
    rw [← hki, ← hke] at HLK HRR
    rw [← hki] at HND HLI
    clear hki hke
    go_wp2_with fail
    (with_reducible refine HLK.out.mono ?_)
    rintro e w4 ⟨rfl, hb4⟩
    have HB34 := Lib.hid hb4
    have HB4 := Lib.hid (HB2.out.trans ((HB3.out.trans (hb4.mono HB3.out.size)).mono HB2.out.size))
    have HR4 := Lib.hid ((hb4.block _ (Array.getElem?_eq_some_iff.1 HR3.out).1).trans HR3.out)
    have c0 := hop0.out _ (HB33.out.trans (hb4.mono HB33.out.size))
    clear hb4
    by_cases hz : ke = 0
    · have HZ := Lib.hid hz
      have hz2 : (ke != 0) = false := by simpa using hz
      clear hz
      by_cases hk : x.kind = 12
      · have HK := Lib.hid hk
        have hk2 : (x.kind == 12) = true := by simpa using hk
        clear hk
        have HN := Lib.hid (HND.out _ HB34.out)
        cases ha : aget ki T with
        | none =>
          have hnm : nodeM T ki = .agg #[.int .i64 0, .int .i64 0, .int .i64 0, .int .i64 0, .int .u64 0, .bool false] := by unfold nodeM; rw [ha]
          rw [hnm] at HN
          have HA := Lib.hid ha
          clear ha hnm
          go_wp2_with fail
          (with_reducible refine HN.out.mono ?_)
          rintro e w5 ⟨rfl, hb5⟩
          have HB5 : Hid (Below w.heap.size w (w5.alloc (.cells #[.int .i64 0, .int .i64 0, .int .i64 0, .int .i64 0, .int .u64 0, .bool false] 34))) := Lib.hid (HB4.out.trans ((hb5.trans ((wall w5 (.cells #[.int .i64 0, .int .i64 0, .int .i64 0, .int .i64 0, .int .u64 0, .bool false] 34)).mono hb5.size)).mono HB4.out.size))
          have HR5 : Hid ((w5.alloc (.cells #[.int .i64 0, .int .i64 0, .int .i64 0, .int .i64 0, .int .u64 0, .bool false] 34)).heap[w.heap.size + 1]? = some (.cells (reC (noM 0) none none 0 0) 36 (0, 0))) := Lib.hid (((hb5.trans ((wall w5 (.cells #[.int .i64 0, .int .i64 0, .int .i64 0, .int .i64 0, .int .u64 0, .bool false] 34)).mono hb5.size)).block _ (Array.getElem?_eq_some_iff.1 HR4.out).1).trans HR4.out)
          clear hb5
          go_wp2_with (refine wpList_store_rep (by rfl) 36 _ _ (by rfl) (w.heap.size + 1) (reC ⟨0, 0, [], [], none⟩ none none 0 0) (by rfl) (by rfl) _ HR5.out repSize rfl (reC_one _ _ _ _ _) ?_; intro w6 hs6; have HS6 := Lib.hid hs6; clear hs6)
          refine ret_rep rfl rfl rfl HS6.out.1 ⟨⟨_, rfl, ?_⟩, HS6.out.below HB5.out (by omega)⟩
          rw [HRR.out, if_neg (fun h => h HZ.out), if_pos HK.out, HA.out]
          exact ⟨none, none, 0, 0, rfl, Nat.le_refl _, Nat.le_refl _, RowAt.nil _ _ _, strs_nil _ _⟩
        | some y =>
          have hnm : nodeM T ki = .agg #[.int .i64 ki, .int .i64 y.kind, .int .i64 y.links, .int .i64 y.b.length, .int .u64 y.til, .bool y.closed] := by unfold nodeM; rw [ha]; rfl
          rw [hnm] at HN
          have HA := Lib.hid ha
          clear ha hnm
          go_wp2_with fail
          (with_reducible refine HN.out.mono ?_)
          rintro e w5 ⟨rfl, hb5⟩
          have HB5 : Hid (Below w.heap.size w (w5.alloc (.cells #[.int .i64 ki, .int .i64 y.kind, .int .i64 y.links, .int .i64 y.b.length, .int .u64 y.til, .bool y.closed] 34))) := Lib.hid (HB4.out.trans ((hb5.trans ((wall w5 (.cells #[.int .i64 ki, .int .i64 y.kind, .int .i64 y.links, .int .i64 y.b.length, .int .u64 y.til, .bool y.closed] 34)).mono hb5.size)).mono HB4.out.size))
          have HR5 : Hid ((w5.alloc (.cells #[.int .i64 ki, .int .i64 y.kind, .int .i64 y.links, .int .i64 y.b.length, .int .u64 y.til, .bool y.closed] 34)).heap[w.heap.size + 1]? = some (.cells (reC (noM 0) none none 0 0) 36 (0, 0))) := Lib.hid (((hb5.trans ((wall w5 (.cells #[.int .i64 ki, .int .i64 y.kind, .int .i64 y.links, .int .i64 y.b.length, .int .u64 y.til, .bool y.closed] 34)).mono hb5.size)).block _ (Array.getElem?_eq_some_iff.1 HR4.out).1).trans HR4.out)
          clear hb5
          go_wp2_with (refine wpList_store_rep (by rfl) 36 _ _ (by rfl) (w.heap.size + 1) (reC ⟨0, 0, [], [], some (ki, y)⟩ none none 0 0) (by rfl) (by rfl) _ HR5.out repSize rfl (reC_one _ _ _ _ _) ?_; intro w6 hs6; have HS6 := Lib.hid hs6; clear hs6)
          refine ret_rep rfl rfl rfl HS6.out.1 ⟨⟨_, rfl, ?_⟩, HS6.out.below HB5.out (by omega)⟩
          rw [HRR.out, if_neg (fun h => h HZ.out), if_pos HK.out, HA.out]
          exact ⟨none, none, 0, 0, rfl, Nat.le_refl _, Nat.le_refl _, RowAt.nil _ _ _, strs_nil _ _⟩
      · have HK := Lib.hid hk
        have hk2 : (x.kind == 12) = false := by simpa using hk
        clear hk
        have HL := Lib.hid (HLI.out _ HB34.out)
        obtain ⟨lm, hlm⟩ : ∃ lm, lm = listM T ki := ⟨_, rfl⟩
        rw [← hlm] at HL HRR
        clear hlm
        obtain ⟨ln, le⟩ := lm
        go_wp2_with fail
        (with_reducible refine HL.out.mono ?_)
        rintro e w5 ⟨la, lc, rfl, hlc, hst, hb5⟩
        have HB5 := Lib.hid (HB4.out.trans (hb5.mono HB4.out.size))
        have HR5 := Lib.hid ((hb5.block _ (Array.getElem?_eq_some_iff.1 HR4.out).1).trans HR4.out)
        have HB45 := Lib.hid hb5
        have HLC := Lib.hid hlc
        have HST := Lib.hid hst
        clear hb5 hlc hst
        dsimp only
        go_wp2_with (refine wpList_store_rep (by rfl) 36 _ _ (by rfl) (w.heap.size + 1) (reC ⟨le, ln.length, [], ln, none⟩ none la 0 lc) (by rfl) (by rfl) _ HR5.out repSize rfl (reC_one _ _ _ _ _) ?_; intro w6 hs6; have HS6 := Lib.hid hs6; clear hs6)
        refine ret_rep rfl rfl rfl HS6.out.1 ⟨⟨_, rfl, ?_⟩, HS6.out.below HB5.out (by omega)⟩
        rw [HRR.out, if_neg (fun h => h HZ.out), if_neg HK.out]
        refine ⟨none, la, 0, lc, rfl, Nat.le_refl _, HLC.out, RowAt.nil _ _ _, ?_⟩
        have h2 := HB2.out.size
        have h3 := HB33.out.size
        have h34 := HB34.out.size
        have hlt := (Array.getElem?_eq_some_iff.1 HR4.out).1
        refine ⟨HST.out.row.move (by rw [HS6.out.2.2]; exact Nat.le_refl _) fun b hb hbw => ⟨⟨Decidable.byContradiction fun h0 => ?_, by rw [HS6.out.2.2]; exact hb.2⟩, HS6.out.2.1.block b hbw (fun e : b = w.heap.size + 1 => ?_)⟩, HST.out.short⟩
        · have := (HM2.out.new b h0).2
          have := hb.1
          omega
        · have := hb.1
          omega
    · have HZ := Lib.hid hz
      have hz2 : (ke != 0) = true := by simpa using hz
      clear hz
      go_wp2_with fail
      (with_reducible refine (no_any _ _).mono ?_)
      rintro e w5 ⟨rfl, hb5⟩
      unfold noV
      have HB5 := Lib.hid (HB4.out.trans (hb5.mono HB4.out.size))
      have HR5 := Lib.hid ((hb5.block _ (Array.getElem?_eq_some_iff.1 HR4.out).1).trans HR4.out)
      clear hb5
      go_wp2_with (refine wpList_store_rep (by rfl) 36 _ _ (by rfl) (w.heap.size + 1) (reC (noM ke) none none 0 0) (by rfl) (by rfl) _ HR5.out repSize rfl (reC_one _ _ _ _ _) ?_; intro w6 hs6; have HS6 := Lib.hid hs6; clear hs6)
      refine ret_rep rfl rfl rfl HS6.out.1 ⟨⟨_, rfl, ?_⟩, HS6.out.below HB5.out (by omega)⟩
      rw [HRR.out, if_pos HZ.out]
      exact ReplyAt.no_ _ _ _
end
end Go.Proofs.YtmabllemjkcobaaGreatDoor
