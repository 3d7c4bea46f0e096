/- package state: node. package state: look. package state: open. The contracts of package clock, and known of permafrostlaw8: what each call returns; the world stays as it was. -/
import Derived.Test.YtpgklnhkfgbpgaaGreatDoorM32
import Derived.Test.YtpgklnhkfgbpgaaGreatDoorM21
import Derived.Test.YtpgklnhkfgbpgaaGreatDoorM01
namespace Go.Proofs.YtpgklnhkfgbpgaaGreatDoor
open Go.ChangeShapes Go.WideShapes Go.ChangeAt Go.RowKit
set_option linter.unusedVariables false
set_option linter.unusedSimpArgs false

theorem results_cell2 {P : Program} {fn : Func} {a b : Nat} {t : TypeId} {tmps : Array Value} {ad : Addr} {v : Value} {w : World} (h : fn.results = #[.cell a t, .tmp b]) (ha : tmps.getD a undef = .pointer (some ad)) (hl : (loadVar t ad).run P w = .ok v w) : (results fn tmps).run P w = .ok (.tuple #[v, tmps.getD b undef]) w := by
  have ha2 : tmps[a]?.getD undef = .pointer (some ad) := by simpa using ha
  simp [results, h, asAddr, ha2, hl]
theorem nodeSize : (Tryz.prog.info? 31).map (·.size) = some 6 := by kernel_rfl
def node0 : Array Value := #[.int .i64 0, .int .i64 0, .int .i64 0, .int .i64 0, .int .u64 0, .bool false]
def nodeC6 (k : Int) (x : ItM) : Array Value := #[.int .i64 k, .int .i64 x.kind, .int .i64 x.links, .int .i64 x.b.length, .int .u64 x.til, .bool x.closed]
theorem ret_node {fn : Func} {sl b' : Nat} {Q : Ending → World → Prop} {a : Act} {w : World} {b : Nat} {cs : Array Value} {z : Value} (hf : fn.results = #[.cell sl 31, .tmp b']) (hs : a.tmps.getD sl undef = .pointer (some ⟨b, 0, none⟩)) (hz : a.tmps.getD b' undef = z) (hd : a.defers = []) (hg : w.heap[b]? = some (.cells cs 31 (0, 0))) (h6 : cs.size = 6) (hQ : Q (.returned (.tuple #[.agg cs, z])) w) :
    bodyPost Tryz.prog fn Q .ret a w := by
  subst hz
  exact bodyPost_ret (v := .tuple #[.agg cs, a.tmps.getD b' undef]) (results_cell2 hf hs (run_loadVar_row w b 31 31 _ (0, 0) _ hg Tryz.underlying31 rfl (by rw [h6]; exact nodeSize))) hd hQ
/-- What 'node' gives. -/
def nodeAtM (T : TrM) (ls : List Nm) : Array Value × Int := if (lookE T ls).2 ≠ 0 then (node0, (lookE T ls).2) else match aget (lookE T ls).1 T with | some x => (nodeC6 (lookE T ls).1 x, 0) | none => (node0, 0)
section
variable {W w : World} {o : Mark} {i j k l p : Nat} {M : StM}
set_option maxRecDepth 100000 in
set_option maxHeartbeats 4000000 in
theorem snode_any {S : Nat → Prop} (hS : StateO o i j k w p M) (hM : Marks W o w) (hok : OkM M.t) (a : Option Addr) (n c : Nat) (ls : List Nm) (hls : StrsAt S w a n (ls.map strOf)) (hid : (Lit.int .i64 (lookE M.t ls).1).wf = true) :
    Calls Tryz.prog 87 #[ptr p, .slice a n c] w fun e w' => e = .returned (.tuple #[.agg (nodeAtM M.t ls).1, .int .i64 (nodeAtM M.t ls).2]) ∧ Below w.heap.size w w' := by
  obtain ⟨t, s, v, h1, h2, h3, h4⟩ := hS.at_
  obtain ⟨z0, z1, z2, z3, z4⟩ := st_cells h1
  have hlow := hS.low
  obtain ⟨w2, hw2⟩ : ∃ w2, w2 = w.alloc (.cells node0 31) := ⟨_, rfl⟩
  have hb2 : Below w.heap.size w w2 := by rw [hw2]; exact wall w _
  have hre : w2.heap[w.heap.size]? = some (.cells node0 31 (0, 0)) := by rw [hw2]; exact (MapKept.heap_alloc w _).1
  obtain ⟨g, D, mb, ib, nb, hA, hg, hD⟩ := h3.grow hb2
  have HLK : Hid (Calls Tryz.prog 82 #[ptr t, .slice a n c] (w.alloc (.cells node0 31)) fun e w' => e = .returned (.tuple #[.int .i64 (lookE M.t ls).1, .int .i64 (lookE M.t ls).2]) ∧ Below w2.heap.size w2 w') := by
    rw [← hw2]; exact Lib.hid (Look_at a n c ls w2 hA hok (hls.below hb2 (Nat.le_refl _)))
  unfold node0 at HLK
  have HND : Hid (∀ w', Below w2.heap.size w2 w' → Calls Tryz.prog 31 #[ptr t, .int .i64 (lookE M.t ls).1] w' fun e w'' => e = .returned (.tuple #[nodeM M.t (lookE M.t ls).1, .bool (aget (lookE M.t ls).1 M.t).isSome]) ∧ Below w'.heap.size w' w'') := fun w' hb => node_any _ w' (hA.below hb (Nat.le_refl _)) hid
  have HP : Hid (∀ w', Below w2.heap.size w2 w' → w'.cell? ⟨p, 0, none⟩ = some (ptr t)) := fun w' hb => ((hb2.trans (hb.mono hb2.size)).cell (p := ⟨p, 0, none⟩) hlow).trans z0
  have HRE := Lib.hid hre
  have HB2 := Lib.hid hb2
  have hgs := (Array.getElem?_eq_some_iff.1 hre).1
  clear hS hM hok hls hid h1 h2 h3 h4 z1 z2 z3 z4 hw2 hb2 hre hA hg hD
  obtain ⟨ki, hki⟩ : ∃ ki, ki = (lookE M.t ls).1 := ⟨_, rfl⟩
  obtain ⟨ke, hke⟩ : ∃ ke, ke = (lookE M.t ls).2 := ⟨_, rfl⟩
  rw [← hki, ← hke] at HLK
  rw [← hki] at HND
  have HR : Hid (nodeAtM M.t ls = if ke ≠ 0 then (node0, ke) else match aget ki M.t with | some x => (nodeC6 ki x, 0) | none => (node0, 0)) := by
    unfold nodeAtM; rw [← hki, ← hke]; exact Lib.hid rfl
  clear hki hke
  go_enter Tryz.func87, Tryz.ntmps87
  go_wp2_with fail
  (with_reducible refine HLK.out.mono ?_)
  rintro e w3 ⟨rfl, hb3⟩
  have HB3 := Lib.hid hb3
  have HR3 := Lib.hid ((hb3.block _ hgs).trans HRE.out)
  have q0 := HP.out _ hb3
  by_cases hz : ke = 0
  · have HZ := Lib.hid hz
    have hz2 : (ke != 0) = false := by simpa using hz
    have HN := Lib.hid (HND.out _ hb3)
    clear hz hb3
    cases ha : aget ki M.t with
    | none =>
      have hnm : nodeM M.t ki = .agg #[.int .i64 0, .int .i64 0, .int .i64 0, .int .i64 0, .int .u64 0, .bool false] := by unfold nodeM; rw [ha]
      rw [hnm] at HN
      have HA := Lib.hid ha
      clear ha hnm
      go_wp2_with fail
      (with_reducible refine HN.out.mono ?_)
      rintro e w4 ⟨rfl, hb4⟩
      have HB4 := Lib.hid hb4
      have HB5 : Hid (Below w3.heap.size w3 (w4.alloc (.cells (node0) 31))) := Lib.hid (hb4.trans ((wall _ _).mono hb4.size))
      have HR5 : Hid ((w4.alloc (.cells (node0) 31)).heap[w.heap.size]? = some (.cells node0 31 (0, 0))) := Lib.hid ((HB5.out.block _ (Array.getElem?_eq_some_iff.1 HR3.out).1).trans HR3.out)
      clear hb4
      go_wp2_with (refine wpList_store_rep (by rfl) 31 _ _ (by rfl) w.heap.size (node0) (by rfl) (by rfl) _ HR5.out nodeSize rfl (by simp [node0, nodeC6, Value.oneCell']) ?_; intro w6 hs6; have HS6 := Lib.hid hs6; clear hs6)
      refine ret_node rfl rfl rfl rfl HS6.out.1 rfl ?_
      rw [HR.out, if_neg (fun h => h HZ.out), HA.out]
      exact ⟨rfl, HS6.out.below (HB2.out.trans ((HB3.out.trans (HB5.out.mono HB3.out.size)).mono HB2.out.size)) (Nat.le_refl _)⟩
    | some x =>
      have hnm : nodeM M.t ki = .agg #[.int .i64 ki, .int .i64 x.kind, .int .i64 x.links, .int .i64 x.b.length, .int .u64 x.til, .bool x.closed] := by unfold nodeM; rw [ha]; rfl
      rw [hnm] at HN
      have HA := Lib.hid ha
      clear ha hnm
      go_wp2_with fail
      (with_reducible refine HN.out.mono ?_)
      rintro e w4 ⟨rfl, hb4⟩
      have HB4 := Lib.hid hb4
      have HB5 : Hid (Below w3.heap.size w3 (w4.alloc (.cells (nodeC6 ki x) 31))) := Lib.hid (hb4.trans ((wall _ _).mono hb4.size))
      have HR5 : Hid ((w4.alloc (.cells (nodeC6 ki x) 31)).heap[w.heap.size]? = some (.cells node0 31 (0, 0))) := Lib.hid ((HB5.out.block _ (Array.getElem?_eq_some_iff.1 HR3.out).1).trans HR3.out)
      clear hb4
      go_wp2_with (refine wpList_store_rep (by rfl) 31 _ _ (by rfl) w.heap.size (nodeC6 ki x) (by rfl) (by rfl) _ HR5.out nodeSize rfl (by simp [node0, nodeC6, Value.oneCell']) ?_; intro w6 hs6; have HS6 := Lib.hid hs6; clear hs6)
      refine ret_node rfl rfl rfl rfl HS6.out.1 rfl ?_
      rw [HR.out, if_neg (fun h => h HZ.out), HA.out]
      exact ⟨rfl, HS6.out.below (HB2.out.trans ((HB3.out.trans (HB5.out.mono HB3.out.size)).mono HB2.out.size)) (Nat.le_refl _)⟩
  · have HZ := Lib.hid hz
    have hz2 : (ke != 0) = true := by simpa using hz
    clear hz hb3
    go_wp2_with (refine wpList_store_rep (by rfl) 31 _ _ (by rfl) w.heap.size node0 (by rfl) (by rfl) _ HR3.out nodeSize rfl (by simp [node0, Value.oneCell']) ?_; intro w5 hs5; have HS5 := Lib.hid hs5; clear hs5)
    refine ret_node rfl rfl rfl rfl HS5.out.1 rfl ?_
    rw [HR.out, if_pos HZ.out]
    exact ⟨rfl, HS5.out.below (HB2.out.trans (HB3.out.mono HB2.out.size)) (Nat.le_refl _)⟩
end
end Go.Proofs.YtpgklnhkfgbpgaaGreatDoor
namespace Go.Proofs.YtpgklnhkfgbpgaaGreatDoor
open Go.ChangeShapes Go.WideShapes Go.ChangeAt Go.RowKit
set_option linter.unusedVariables false
set_option linter.unusedSimpArgs false

def lookT (T : TrM) (kind : Int) (ls : List Nm) : ReM :=
  if (lookE T ls).2 ≠ 0 then noM (lookE T ls).2 else
  if kind = 12 then ⟨0, 0, [], [], (aget (lookE T ls).1 T).map fun x => ((lookE T ls).1, x)⟩ else ⟨(listM T (lookE T ls).1).2, (listM T (lookE T ls).1).1.length, [], (listM T (lookE T ls).1).1, none⟩
def slookM (M : StM) (x : OpM) (ls : List Nm) : ReM := match treeAtM M x.snap with
  | none => noM 29
  | some T => lookT T x.kind ls
section
variable {W w : World} {o : Mark} {i j k l p : Nat} {M : StM}
set_option maxRecDepth 100000 in
set_option maxHeartbeats 8000000 in
theorem slook_any {S : Nat → Prop} (hS : StateO o i j k w p M) (hM : Marks W o w) (hok : OkM M.t) (hl8 : M.s.l.length ≤ 1000) (x : OpM) (da : Option Addr) (dc : Nat) (a : Option Addr) (n c : Nat) (ls : List Nm) (hls : StrsAt S w a n (ls.map strOf)) (hid : ∀ T, treeAtM M x.snap = some T → (Lit.int .i64 (lookE T ls).1).wf = true) :
    Calls Tryz.prog 47 #[ptr p, .agg (opC x da dc), .slice a n c] w fun e w' => RepRet o (slookM M x ls) e w' ∧ Below w.heap.size w w' := by
  obtain ⟨w2, hw2⟩ : ∃ w2, w2 = (w.alloc (.cells (opC x da dc) 36)).alloc (.cells (reC (noM 0) none none 0 0) 33) := ⟨_, rfl⟩
  have hb2 : Below w.heap.size w w2 := by rw [hw2]; exact (wall w _).trans ((wall _ _).mono (by simp))
  have hop : w2.heap[w.heap.size]? = some (.cells (opC x da dc) 36 (0, 0)) := by
    rw [hw2]
    exact ((wall _ _).block _ (by simp)).trans (MapKept.heap_alloc w _).1
  have hre : w2.heap[w.heap.size + 1]? = some (.cells (reC (noM 0) none none 0 0) 33 (0, 0)) := by
    rw [hw2]
    have := (MapKept.heap_alloc (w.alloc (.cells (opC x da dc) 36)) (.cells (reC (noM 0) none none 0 0) 33)).1
    rw [World.size_alloc] at this
    exact this
  have hM2 := hM.step (I := fun _ => False) (fun e => e) (Step.grow hM hb2)
  have HAT : Hid (Calls Tryz.prog 81 #[ptr p, .int .i64 x.snap] ((w.alloc (.cells (opC x da dc) 36)).alloc (.cells (reC (noM 0) none none 0 0) 33)) (AtRet o j w2 M x.snap)) := by
    rw [← hw2]; exact Lib.hid (at_any (hS.grow hM hb2) hM2 hok hl8 x.snap)
  unfold opC reC noM at HAT
  dsimp only [List.length_nil] at HAT
  have HLS := Lib.hid (hls.below hb2 (Nat.le_refl _))
  have HOP := Lib.hid hop
  have HRE := Lib.hid hre
  have HB2 := Lib.hid hb2
  have HID := Lib.hid hid
  have HM2 := Lib.hid hM2
  have hop0 : Hid (∀ w', Below w2.heap.size w2 w' → w'.cell? ⟨w.heap.size, 0, none⟩ = some (.int .i64 x.kind)) := fun w' hb => by
    have := (hb.block _ (Array.getElem?_eq_some_iff.1 hop).1).trans hop
    simp [World.cell?, this, opC]
  clear hS hM hok hl8 hls hid hw2 hb2 hop hre hM2
  unfold opC
  go_enter Tryz.func47, Tryz.ntmps47
  go_wp2_with fail
  (with_reducible refine HAT.out.mono ?_)
  rintro e w3 ⟨hb3, hat⟩
  have HB3 := Lib.hid hb3
  have HR3 := Lib.hid ((hb3.block _ (Array.getElem?_eq_some_iff.1 HRE.out).1).trans HRE.out)
  rcases hat with ⟨hT, rfl⟩ | ⟨T, q, hT, rfl, ⟨m, hTr⟩, hOk⟩
  · have hr : slookM M x ls = noM 29 := by unfold slookM; rw [hT]
    have HRR := Lib.hid hr
    clear hr hT hb3
    go_wp2_with fail
    (with_reducible refine (no_any _ _).mono ?_)
    rintro e w4 ⟨rfl, hb4⟩
    unfold noV
    have HB4 := Lib.hid (HB2.out.trans ((HB3.out.trans (hb4.mono HB3.out.size)).mono HB2.out.size))
    have HR4 := Lib.hid ((hb4.block _ (Array.getElem?_eq_some_iff.1 HR3.out).1).trans HR3.out)
    clear hb4
    go_wp2_with (refine wpList_store_rep (by rfl) 33 _ _ (by rfl) (w.heap.size + 1) (reC (noM 29) none none 0 0) (by rfl) (by rfl) _ HR4.out repSize rfl (reC_one _ _ _ _ _) ?_; intro w5 hs5; have HS5 := Lib.hid hs5; clear hs5)
    refine ret_rep rfl rfl rfl HS5.out.1 ⟨⟨_, rfl, ?_⟩, HS5.out.below HB4.out (by omega)⟩
    rw [HRR.out]
    exact ReplyAt.no_ _ _ _
  · obtain ⟨g, D, mb, ib, nb, hA, -, -⟩ := hTr
    have hid := HID.out T hT
    have HLK := Lib.hid (Look_at a n c ls w3 hA hOk (HLS.out.below hb3 (Nat.le_refl _)))
    have HND : Hid (∀ w', Below w3.heap.size w3 w' → Calls Tryz.prog 31 #[ptr q, .int .i64 (lookE T ls).1] w' fun e w'' => e = .returned (.tuple #[nodeM T (lookE T ls).1, .bool (aget (lookE T ls).1 T).isSome]) ∧ Below w'.heap.size w' w'') := fun w' hb => node_any _ w' (hA.below hb (Nat.le_refl _)) hid
    have HLI : Hid (∀ w', Below w3.heap.size w3 w' → Calls Tryz.prog 92 #[ptr q, .int .i64 (lookE T ls).1] w' (NewList w' (listM T (lookE T ls).1))) := fun w' hb => list_at _ w' (hA.below hb (Nat.le_refl _)) hOk hid
    have hr : slookM M x ls = lookT T x.kind ls := by unfold slookM; rw [hT]
    unfold lookT at hr
    have HRR := Lib.hid hr
    have HB33 := Lib.hid hb3
    clear hr hT hA hOk hid hb3
    obtain ⟨ki, hki⟩ : ∃ ki, ki = (lookE T ls).1 := ⟨_, rfl⟩
    obtain ⟨ke, hke⟩ : ∃ ke, ke = (lookE T ls).2 := ⟨_, rfl⟩
    rw [← hki, ← hke] at HLK HRR
    rw [← hki] at HND HLI
    clear hki hke
    go_wp2_with fail
    (with_reducible refine HLK.out.mono ?_)
    rintro e w4 ⟨rfl, hb4⟩
    have HB34 := Lib.hid hb4
    have HB4 := Lib.hid (HB2.out.trans ((HB3.out.trans (hb4.mono HB3.out.size)).mono HB2.out.size))
    have HR4 := Lib.hid ((hb4.block _ (Array.getElem?_eq_some_iff.1 HR3.out).1).trans HR3.out)
    have c0 := hop0.out _ (HB33.out.trans (hb4.mono HB33.out.size))
    clear hb4
    by_cases hz : ke = 0
    · have HZ := Lib.hid hz
      have hz2 : (ke != 0) = false := by simpa using hz
      clear hz
      by_cases hk : x.kind = 12
      · have HK := Lib.hid hk
        have hk2 : (x.kind == 12) = true := by simpa using hk
        clear hk
        have HN := Lib.hid (HND.out _ HB34.out)
        cases ha : aget ki T with
        | none =>
          have hnm : nodeM T ki = .agg #[.int .i64 0, .int .i64 0, .int .i64 0, .int .i64 0, .int .u64 0, .bool false] := by unfold nodeM; rw [ha]
          rw [hnm] at HN
          have HA := Lib.hid ha
          clear ha hnm
          go_wp2_with fail
          (with_reducible refine HN.out.mono ?_)
          rintro e w5 ⟨rfl, hb5⟩
          have HB5 : Hid (Below w.heap.size w (w5.alloc (.cells #[.int .i64 0, .int .i64 0, .int .i64 0, .int .i64 0, .int .u64 0, .bool false] 31))) := Lib.hid (HB4.out.trans ((hb5.trans ((wall w5 (.cells #[.int .i64 0, .int .i64 0, .int .i64 0, .int .i64 0, .int .u64 0, .bool false] 31)).mono hb5.size)).mono HB4.out.size))
          have HR5 : Hid ((w5.alloc (.cells #[.int .i64 0, .int .i64 0, .int .i64 0, .int .i64 0, .int .u64 0, .bool false] 31)).heap[w.heap.size + 1]? = some (.cells (reC (noM 0) none none 0 0) 33 (0, 0))) := Lib.hid (((hb5.trans ((wall w5 (.cells #[.int .i64 0, .int .i64 0, .int .i64 0, .int .i64 0, .int .u64 0, .bool false] 31)).mono hb5.size)).block _ (Array.getElem?_eq_some_iff.1 HR4.out).1).trans HR4.out)
          clear hb5
          go_wp2_with (refine wpList_store_rep (by rfl) 33 _ _ (by rfl) (w.heap.size + 1) (reC ⟨0, 0, [], [], none⟩ none none 0 0) (by rfl) (by rfl) _ HR5.out repSize rfl (reC_one _ _ _ _ _) ?_; intro w6 hs6; have HS6 := Lib.hid hs6; clear hs6)
          refine ret_rep rfl rfl rfl HS6.out.1 ⟨⟨_, rfl, ?_⟩, HS6.out.below HB5.out (by omega)⟩
          rw [HRR.out, if_neg (fun h => h HZ.out), if_pos HK.out, HA.out]
          exact ⟨none, none, 0, 0, rfl, Nat.le_refl _, Nat.le_refl _, RowAt.nil _ _ _, strs_nil _ _⟩
        | some y =>
          have hnm : nodeM T ki = .agg #[.int .i64 ki, .int .i64 y.kind, .int .i64 y.links, .int .i64 y.b.length, .int .u64 y.til, .bool y.closed] := by unfold nodeM; rw [ha]; rfl
          rw [hnm] at HN
          have HA := Lib.hid ha
          clear ha hnm
          go_wp2_with fail
          (with_reducible refine HN.out.mono ?_)
          rintro e w5 ⟨rfl, hb5⟩
          have HB5 : Hid (Below w.heap.size w (w5.alloc (.cells #[.int .i64 ki, .int .i64 y.kind, .int .i64 y.links, .int .i64 y.b.length, .int .u64 y.til, .bool y.closed] 31))) := Lib.hid (HB4.out.trans ((hb5.trans ((wall w5 (.cells #[.int .i64 ki, .int .i64 y.kind, .int .i64 y.links, .int .i64 y.b.length, .int .u64 y.til, .bool y.closed] 31)).mono hb5.size)).mono HB4.out.size))
          have HR5 : Hid ((w5.alloc (.cells #[.int .i64 ki, .int .i64 y.kind, .int .i64 y.links, .int .i64 y.b.length, .int .u64 y.til, .bool y.closed] 31)).heap[w.heap.size + 1]? = some (.cells (reC (noM 0) none none 0 0) 33 (0, 0))) := Lib.hid (((hb5.trans ((wall w5 (.cells #[.int .i64 ki, .int .i64 y.kind, .int .i64 y.links, .int .i64 y.b.length, .int .u64 y.til, .bool y.closed] 31)).mono hb5.size)).block _ (Array.getElem?_eq_some_iff.1 HR4.out).1).trans HR4.out)
          clear hb5
          go_wp2_with (refine wpList_store_rep (by rfl) 33 _ _ (by rfl) (w.heap.size + 1) (reC ⟨0, 0, [], [], some (ki, y)⟩ none none 0 0) (by rfl) (by rfl) _ HR5.out repSize rfl (reC_one _ _ _ _ _) ?_; intro w6 hs6; have HS6 := Lib.hid hs6; clear hs6)
          refine ret_rep rfl rfl rfl HS6.out.1 ⟨⟨_, rfl, ?_⟩, HS6.out.below HB5.out (by omega)⟩
          rw [HRR.out, if_neg (fun h => h HZ.out), if_pos HK.out, HA.out]
          exact ⟨none, none, 0, 0, rfl, Nat.le_refl _, Nat.le_refl _, RowAt.nil _ _ _, strs_nil _ _⟩
      · have HK := Lib.hid hk
        have hk2 : (x.kind == 12) = false := by simpa using hk
        clear hk
        have HL := Lib.hid (HLI.out _ HB34.out)
        obtain ⟨lm, hlm⟩ : ∃ lm, lm = listM T ki := ⟨_, rfl⟩
        rw [← hlm] at HL HRR
        clear hlm
        obtain ⟨ln, le⟩ := lm
        go_wp2_with fail
        (with_reducible refine HL.out.mono ?_)
        rintro e w5 ⟨la, lc, rfl, hlc, hst, hb5⟩
        have HB5 := Lib.hid (HB4.out.trans (hb5.mono HB4.out.size))
        have HR5 := Lib.hid ((hb5.block _ (Array.getElem?_eq_some_iff.1 HR4.out).1).trans HR4.out)
        have HB45 := Lib.hid hb5
        have HLC := Lib.hid hlc
        have HST := Lib.hid hst
        clear hb5 hlc hst
        dsimp only
        go_wp2_with (refine wpList_store_rep (by rfl) 33 _ _ (by rfl) (w.heap.size + 1) (reC ⟨le, ln.length, [], ln, none⟩ none la 0 lc) (by rfl) (by rfl) _ HR5.out repSize rfl (reC_one _ _ _ _ _) ?_; intro w6 hs6; have HS6 := Lib.hid hs6; clear hs6)
        refine ret_rep rfl rfl rfl HS6.out.1 ⟨⟨_, rfl, ?_⟩, HS6.out.below HB5.out (by omega)⟩
        rw [HRR.out, if_neg (fun h => h HZ.out), if_neg HK.out]
        refine ⟨none, la, 0, lc, rfl, Nat.le_refl _, HLC.out, RowAt.nil _ _ _, ?_⟩
        have h2 := HB2.out.size
        have h3 := HB33.out.size
        have h34 := HB34.out.size
        have hlt := (Array.getElem?_eq_some_iff.1 HR4.out).1
        refine ⟨HST.out.row.move (by rw [HS6.out.2.2]; exact Nat.le_refl _) fun b hb hbw => ⟨⟨Decidable.byContradiction fun h0 => ?_, by rw [HS6.out.2.2]; exact hb.2⟩, HS6.out.2.1.block b hbw (fun e : b = w.heap.size + 1 => ?_)⟩, HST.out.short⟩
        · have := (HM2.out.new b h0).2
          have := hb.1
          omega
        · have := hb.1
          omega
    · have HZ := Lib.hid hz
      have hz2 : (ke != 0) = true := by simpa using hz
      clear hz
      go_wp2_with fail
      (with_reducible refine (no_any _ _).mono ?_)
      rintro e w5 ⟨rfl, hb5⟩
      unfold noV
      have HB5 := Lib.hid (HB4.out.trans (hb5.mono HB4.out.size))
      have HR5 := Lib.hid ((hb5.block _ (Array.getElem?_eq_some_iff.1 HR4.out).1).trans HR4.out)
      clear hb5
      go_wp2_with (refine wpList_store_rep (by rfl) 33 _ _ (by rfl) (w.heap.size + 1) (reC (noM ke) none none 0 0) (by rfl) (by rfl) _ HR5.out repSize rfl (reC_one _ _ _ _ _) ?_; intro w6 hs6; have HS6 := Lib.hid hs6; clear hs6)
      refine ret_rep rfl rfl rfl HS6.out.1 ⟨⟨_, rfl, ?_⟩, HS6.out.below HB5.out (by omega)⟩
      rw [HRR.out, if_pos HZ.out]
      exact ReplyAt.no_ _ _ _
end
end Go.Proofs.YtpgklnhkfgbpgaaGreatDoor
namespace Go.Proofs.YtpgklnhkfgbpgaaGreatDoor
open Go.ChangeShapes Go.WideShapes Go.ChangeAt Go.RowKit
set_option linter.unusedVariables false
set_option linter.unusedSimpArgs false

def openT (M : StM) (T : TrM) (ls : List Nm) : ReM × StM :=
  if (lookE T ls).2 ≠ 0 then (noM (lookE T ls).2, M) else
  match aget (lookE T ls).1 T with
  | none => (noM 25, M)
  | some y => if y.kind = 2 then (noM 22, M) else if y.closed = false then (noM 25, M) else
    (⟨0, freeI M, [], [], none⟩, M.put (freeI M).toNat (some ⟨false, 0, readB T (lookE T ls).1 0 y.b.length⟩))
def sopenM (M : StM) (ls : List Nm) (id : Int) : ReM × StM := match treeAtM M id with
  | none => (noM 29, M)
  | some T => if freeI M < 0 then (noM 25, M) else openT M T ls
section
variable {W w : World} {o : Mark} {i j k l p : Nat} {M : StM}
set_option maxRecDepth 100000 in
set_option maxHeartbeats 16000000 in
theorem sopen_any {S : Nat → Prop} (hS : StateO o i j k w p M) (hM : Marks W o w) (hk : Mk i j k l) (hok : OkM M.t) (hl8 : M.s.l.length ≤ 1000) (a : Option Addr) (n c : Nat) (ls : List Nm) (hls : StrsAt S w a n (ls.map strOf)) (id : Int) (hid : ∀ T, treeAtM M id = some T → (Lit.int .i64 (lookE T ls).1).wf = true) :
    Calls Tryz.prog 39 #[ptr p, .slice a n c, .int .i64 id] w (StRet o i j k l w p (sopenM M ls id)) := by
  have HKK := Lib.hid hk
  have HM := Lib.hid hM
  have HS := Lib.hid hS
  obtain ⟨w2, hw2⟩ : ∃ w2, w2 = w.alloc (.cells (reC (noM 0) none none 0 0) 33) := ⟨_, rfl⟩
  have hb2 : Below w.heap.size w w2 := by rw [hw2]; exact wall w _
  have hre : w2.heap[w.heap.size]? = some (.cells (reC (noM 0) none none 0 0) 33 (0, 0)) := by rw [hw2]; exact (MapKept.heap_alloc w _).1
  obtain ⟨n1, n2, n3, n4, n5, n6, n7, n8, n9, n10⟩ := hk.ne
  obtain ⟨o1, hs1, hl1, hl2⟩ := mark_new HM.out l (fun b => b = w.heap.size) (w' := w2) (fun b hb => by subst hb; exact ⟨Nat.le_refl _, (Array.getElem?_eq_some_iff.1 hre).1⟩) hb2
  have hS1 : StateO o1 i j k w2 p M := HS.out.step (fun e => n4 e.symm) n7 n9 n10 hs1
  have hM1 : Marks W o1 w2 := HM.out.step (fun e => n4 e.symm) hs1
  have HAT : Hid (Calls Tryz.prog 81 #[ptr p, .int .i64 id] (w.alloc (.cells (reC (noM 0) none none 0 0) 33)) (AtRet o1 j w2 M id)) := by rw [← hw2]; exact Lib.hid (at_any hS1 hM1 hok hl8 id)
  unfold reC noM at HAT
  dsimp only [List.length_nil] at HAT
  have HLS := Lib.hid (hls.below hb2 (Nat.le_refl _))
  have HRE := Lib.hid hre
  have HB2 := Lib.hid hb2
  have HS1 := Lib.hid hS1
  have HM1 := Lib.hid hM1
  have HL1 := Lib.hid (hl1 _ rfl)
  have HST1 := Lib.hid hs1
  have HID := Lib.hid hid
  have HEND : Hid (∀ (z : ReM) (w4 w5 : World), Below w2.heap.size w2 w4 → RowSet w4 w.heap.size (reC z none none 0 0) 33 w5 → z.data = [] → z.names = [] → StRet o i j k l w p (z, M) (.returned (.agg (reC z none none 0 0))) w5) := fun z w4 w5 hb hs hz1 hz2 => by
    have hM4 := HM1.out.step (I := fun _ => False) (fun e => e) (Step.grow HM1.out hb)
    have hst := hs.step hM4 HL1.out
    have hS4 := (HS1.out.grow HM1.out hb).step (fun e => n4 e.symm) n7 n9 n10 hst
    refine ⟨o1, ⟨_, rfl, none, none, 0, 0, rfl, by rw [hz1]; exact Nat.le_refl _, by rw [hz2]; exact Nat.le_refl _, by rw [hz1]; exact RowAt.nil _ _ _, by rw [hz2]; exact strs_nil _ _⟩, ((HST1.out.trans (Step.grow HM1.out hb)).trans hst).mono fun m hm => .inr (.inr (.inr hm)), hS4⟩
  clear hS hM hk hok hl8 hls hid hre hb2 hw2 hS1 hM1 hl1 hl2 hs1
  go_enter Tryz.func39, Tryz.ntmps39
  go_wp2_with fail
  (with_reducible refine HAT.out.mono ?_)
  rintro e w3 ⟨hb3, hat⟩
  have HB3 := Lib.hid hb3
  have HR3 := Lib.hid ((hb3.block _ (Array.getElem?_eq_some_iff.1 HRE.out).1).trans HRE.out)
  rcases hat with ⟨hT, rfl⟩ | ⟨T, q, hT, rfl, ⟨m, hTr⟩, hOk⟩
  · have HT := Lib.hid hT
    clear hT hb3
    go_wp2_with fail
    (with_reducible refine (no_any _ _).mono ?_)
    rintro e w9 ⟨rfl, hb9⟩
    unfold noV
    have HB9 := Lib.hid (HB3.out.trans (hb9.mono HB3.out.size))
    have HR9 := Lib.hid ((hb9.block _ (Array.getElem?_eq_some_iff.1 HR3.out).1).trans HR3.out)
    clear hb9
    go_wp2_with (refine wpList_store_rep (by rfl) 33 _ _ (by rfl) w.heap.size (reC (noM 29) none none 0 0) (by rfl) (by rfl) _ HR9.out repSize rfl (reC_one _ _ _ _ _) ?_; intro w10 hs10; have HS10 := Lib.hid hs10; clear hs10)
    refine ret_rep rfl rfl rfl HS10.out.1 ?_
    have e2 : sopenM M ls id = (noM 29, M) := by unfold sopenM; rw [HT.out]
    rw [e2]
    exact HEND.out _ _ _ HB9.out HS10.out rfl rfl
  · have HFR := Lib.hid (free_any (HS1.out.grow HM1.out hb3))
    obtain ⟨g, D, mb, ib, nb, hA, -, -⟩ := hTr
    have hid := HID.out T hT
    have HLK : Hid (∀ w', Below w3.heap.size w3 w' → Calls Tryz.prog 82 #[ptr q, .slice a n c] w' fun e w'' => e = .returned (.tuple #[.int .i64 (lookE T ls).1, .int .i64 (lookE T ls).2]) ∧ Below w'.heap.size w' w'') := fun w' hb => Look_at a n c ls w' (hA.below hb (Nat.le_refl _)) hOk ((HLS.out.below hb3 (Nat.le_refl _)).below hb (Nat.le_refl _))
    have HND : Hid (∀ w', Below w3.heap.size w3 w' → Calls Tryz.prog 31 #[ptr q, .int .i64 (lookE T ls).1] w' fun e w'' => e = .returned (.tuple #[nodeM T (lookE T ls).1, .bool (aget (lookE T ls).1 T).isSome]) ∧ Below w'.heap.size w' w'') := fun w' hb => node_any _ w' (hA.below hb (Nat.le_refl _)) hid
    have HRD : Hid (∀ w' (N : Int), (Lit.int .i64 N).wf = true → Below w3.heap.size w3 w' → Calls Tryz.prog 33 #[ptr q, .int .i64 (lookE T ls).1, .int .i64 0, .int .i64 N] w' (RetPart w' (readB T (lookE T ls).1 0 N) (readE T (lookE T ls).1 0 N))) := fun w' N hN hb => read_any _ 0 N w' (hA.below hb (Nat.le_refl _)) (fun x hx => (hOk.each _ x hx).size) hid (by decide) hN
    have HYL : Hid (∀ y, aget (lookE T ls).1 T = some y → y.b.length ≤ 4096) := fun y hy => (hOk.each _ y hy).size
    have HT := Lib.hid hT
    have HB33 := Lib.hid hb3
    clear hT hA hOk hid hb3
    go_wp2_with fail
    (with_reducible refine HFR.out.mono ?_)
    rintro e w4 ⟨v, rfl, hfr, rfl⟩
    have hv := hfr.eq
    rcases hfr with ⟨rfl, hfull⟩ | ⟨fm, hm8, rfl, hfm, hfl⟩
    · have HV := Lib.hid hv
      clear hv hfull
      go_wp2_with fail
      (with_reducible refine (no_any _ _).mono ?_)
      rintro e w9 ⟨rfl, hb9⟩
      unfold noV
      have HB9 := Lib.hid (HB3.out.trans (hb9.mono HB3.out.size))
      have HR9 := Lib.hid ((hb9.block _ (Array.getElem?_eq_some_iff.1 HR3.out).1).trans HR3.out)
      clear hb9
      go_wp2_with (refine wpList_store_rep (by rfl) 33 _ _ (by rfl) w.heap.size (reC (noM 25) none none 0 0) (by rfl) (by rfl) _ HR9.out repSize rfl (reC_one _ _ _ _ _) ?_; intro w10 hs10; have HS10 := Lib.hid hs10; clear hs10)
      refine ret_rep rfl rfl rfl HS10.out.1 ?_
      have e2 : sopenM M ls id = (noM 25, M) := by unfold sopenM; rw [HT.out]; exact if_pos (by rw [← HV.out]; omega)
      rw [e2]
      exact HEND.out _ _ _ HB9.out HS10.out rfl rfl
    · have HV := Lib.hid hv
      have hdn : decide ((fm : Int) < 0) = false := by simp
      have hneg : ¬ ((fm : Int) < 0) := by omega
      have HOT : Hid (sopenM M ls id = openT M T ls) := by unfold sopenM; rw [HT.out]; exact Lib.hid (if_neg (by rw [← HV.out]; omega))
      have HLK2 := Lib.hid (HLK.out w4 (Below.refl _ _))
      clear hv hfm hfl
      unfold openT at HOT
      obtain ⟨ki, hki⟩ : ∃ ki, ki = (lookE T ls).1 := ⟨_, rfl⟩
      obtain ⟨ke, hke⟩ : ∃ ke, ke = (lookE T ls).2 := ⟨_, rfl⟩
      rw [← hki, ← hke] at HLK2 HOT
      rw [← hki] at HND HRD HYL
      clear hki hke
      go_wp2_with fail
      (with_reducible refine HLK2.out.mono ?_)
      rintro e w5 ⟨rfl, hb5⟩
      have HB35 := Lib.hid hb5
      have HB5 := Lib.hid (HB3.out.trans (hb5.mono HB3.out.size))
      have HR5 := Lib.hid ((hb5.block _ (Array.getElem?_eq_some_iff.1 HR3.out).1).trans HR3.out)
      clear hb5
      by_cases hz : ke = 0
      · have HZ := Lib.hid hz
        have hz2 : (ke != 0) = false := by simpa using hz
        clear hz
        have HN := Lib.hid (HND.out _ HB35.out)
        cases ha : aget ki T with
        | none =>
          have hnm : nodeM T ki = .agg #[.int .i64 0, .int .i64 0, .int .i64 0, .int .i64 0, .int .u64 0, .bool false] := by unfold nodeM; rw [ha]
          rw [hnm] at HN
          have HA := Lib.hid ha
          clear ha hnm
          go_wp2_with fail
          (with_reducible refine HN.out.mono ?_)
          rintro e w6 ⟨rfl, hb6⟩
          have hb67 : Below w5.heap.size w5 (w6.alloc (.cells #[.int .i64 0, .int .i64 0, .int .i64 0, .int .i64 0, .int .u64 0, .bool false] 31)) := hb6.trans ((wall w6 _).mono hb6.size)
          have HB37 := Lib.hid (HB35.out.trans (hb67.mono HB35.out.size))
          have HB6 := Lib.hid (HB5.out.trans (hb67.mono HB5.out.size))
          have HR6 := Lib.hid ((hb67.block _ (Array.getElem?_eq_some_iff.1 HR5.out).1).trans HR5.out)
          clear hb67 hb6
          go_wp2_with fail
          (with_reducible refine (no_any _ _).mono ?_)
          rintro e w9 ⟨rfl, hb9⟩
          unfold noV
          have HB9 := Lib.hid (HB6.out.trans (hb9.mono HB6.out.size))
          have HR9 := Lib.hid ((hb9.block _ (Array.getElem?_eq_some_iff.1 HR6.out).1).trans HR6.out)
          clear hb9
          go_wp2_with (refine wpList_store_rep (by rfl) 33 _ _ (by rfl) w.heap.size (reC (noM 25) none none 0 0) (by rfl) (by rfl) _ HR9.out repSize rfl (reC_one _ _ _ _ _) ?_; intro w10 hs10; have HS10 := Lib.hid hs10; clear hs10)
          refine ret_rep rfl rfl rfl HS10.out.1 ?_
          have e2 : sopenM M ls id = (noM 25, M) := HOT.out.trans ((if_neg (fun h => h HZ.out)).trans (by rw [HA.out]))
          rw [e2]
          exact HEND.out _ _ _ HB9.out HS10.out rfl rfl
        | some y =>
          cases hcl : y.closed with
          | false =>
            have HCL := Lib.hid hcl
            have hnm : nodeM T ki = .agg #[.int .i64 ki, .int .i64 y.kind, .int .i64 y.links, .int .i64 y.b.length, .int .u64 y.til, .bool false] := by unfold nodeM; rw [ha]; show nodeV ki y = _; unfold nodeV; rw [hcl]
            clear hcl
            rw [hnm] at HN
            have HA := Lib.hid ha
            clear ha hnm
            go_wp2_with fail
            (with_reducible refine HN.out.mono ?_)
            rintro e w6 ⟨rfl, hb6⟩
            have hb67 : Below w5.heap.size w5 (w6.alloc (.cells #[.int .i64 ki, .int .i64 y.kind, .int .i64 y.links, .int .i64 y.b.length, .int .u64 y.til, .bool false] 31)) := hb6.trans ((wall w6 _).mono hb6.size)
            have HB37 := Lib.hid (HB35.out.trans (hb67.mono HB35.out.size))
            have HB6 := Lib.hid (HB5.out.trans (hb67.mono HB5.out.size))
            have HR6 := Lib.hid ((hb67.block _ (Array.getElem?_eq_some_iff.1 HR5.out).1).trans HR5.out)
            clear hb67 hb6
            by_cases hk : y.kind = 2
            · have HK := Lib.hid hk
              have hk2 : (y.kind == 2) = true := by simpa using hk
              clear hk
              go_wp2_with fail
              (with_reducible refine (no_any _ _).mono ?_)
              rintro e w9 ⟨rfl, hb9⟩
              unfold noV
              have HB9 := Lib.hid (HB6.out.trans (hb9.mono HB6.out.size))
              have HR9 := Lib.hid ((hb9.block _ (Array.getElem?_eq_some_iff.1 HR6.out).1).trans HR6.out)
              clear hb9
              go_wp2_with (refine wpList_store_rep (by rfl) 33 _ _ (by rfl) w.heap.size (reC (noM 22) none none 0 0) (by rfl) (by rfl) _ HR9.out repSize rfl (reC_one _ _ _ _ _) ?_; intro w10 hs10; have HS10 := Lib.hid hs10; clear hs10)
              refine ret_rep rfl rfl rfl HS10.out.1 ?_
              have e2 : sopenM M ls id = (noM 22, M) := HOT.out.trans ((if_neg (fun h => h HZ.out)).trans (by rw [HA.out]; exact if_pos HK.out))
              rw [e2]
              exact HEND.out _ _ _ HB9.out HS10.out rfl rfl
            · have HK := Lib.hid hk
              have hk2 : (y.kind == 2) = false := by simpa using hk
              clear hk
              go_wp2_with fail
              (with_reducible refine (no_any _ _).mono ?_)
              rintro e w9 ⟨rfl, hb9⟩
              unfold noV
              have HB9 := Lib.hid (HB6.out.trans (hb9.mono HB6.out.size))
              have HR9 := Lib.hid ((hb9.block _ (Array.getElem?_eq_some_iff.1 HR6.out).1).trans HR6.out)
              clear hb9
              go_wp2_with (refine wpList_store_rep (by rfl) 33 _ _ (by rfl) w.heap.size (reC (noM 25) none none 0 0) (by rfl) (by rfl) _ HR9.out repSize rfl (reC_one _ _ _ _ _) ?_; intro w10 hs10; have HS10 := Lib.hid hs10; clear hs10)
              refine ret_rep rfl rfl rfl HS10.out.1 ?_
              have e2 : sopenM M ls id = (noM 25, M) := HOT.out.trans ((if_neg (fun h => h HZ.out)).trans (by rw [HA.out]; exact (if_neg HK.out).trans (if_pos HCL.out)))
              rw [e2]
              exact HEND.out _ _ _ HB9.out HS10.out rfl rfl
          | true =>
            have HCL := Lib.hid hcl
            have hnm : nodeM T ki = .agg #[.int .i64 ki, .int .i64 y.kind, .int .i64 y.links, .int .i64 y.b.length, .int .u64 y.til, .bool true] := by unfold nodeM; rw [ha]; show nodeV ki y = _; unfold nodeV; rw [hcl]
            clear hcl
            rw [hnm] at HN
            have HA := Lib.hid ha
            clear ha hnm
            go_wp2_with fail
            (with_reducible refine HN.out.mono ?_)
            rintro e w6 ⟨rfl, hb6⟩
            have hb67 : Below w5.heap.size w5 (w6.alloc (.cells #[.int .i64 ki, .int .i64 y.kind, .int .i64 y.links, .int .i64 y.b.length, .int .u64 y.til, .bool true] 31)) := hb6.trans ((wall w6 _).mono hb6.size)
            have HB37 := Lib.hid (HB35.out.trans (hb67.mono HB35.out.size))
            have HB6 := Lib.hid (HB5.out.trans (hb67.mono HB5.out.size))
            have HR6 := Lib.hid ((hb67.block _ (Array.getElem?_eq_some_iff.1 HR5.out).1).trans HR5.out)
            clear hb67 hb6
            by_cases hk : y.kind = 2
            · have HK := Lib.hid hk
              have hk2 : (y.kind == 2) = true := by simpa using hk
              clear hk
              go_wp2_with fail
              (with_reducible refine (no_any _ _).mono ?_)
              rintro e w9 ⟨rfl, hb9⟩
              unfold noV
              have HB9 := Lib.hid (HB6.out.trans (hb9.mono HB6.out.size))
              have HR9 := Lib.hid ((hb9.block _ (Array.getElem?_eq_some_iff.1 HR6.out).1).trans HR6.out)
              clear hb9
              go_wp2_with (refine wpList_store_rep (by rfl) 33 _ _ (by rfl) w.heap.size (reC (noM 22) none none 0 0) (by rfl) (by rfl) _ HR9.out repSize rfl (reC_one _ _ _ _ _) ?_; intro w10 hs10; have HS10 := Lib.hid hs10; clear hs10)
              refine ret_rep rfl rfl rfl HS10.out.1 ?_
              have e2 : sopenM M ls id = (noM 22, M) := HOT.out.trans ((if_neg (fun h => h HZ.out)).trans (by rw [HA.out]; exact if_pos HK.out))
              rw [e2]
              exact HEND.out _ _ _ HB9.out HS10.out rfl rfl
            · have HK := Lib.hid hk
              have hk2 : (y.kind == 2) = false := by simpa using hk
              clear hk
              have HRC := Lib.hid (HRD.out _ (y.b.length : Int) (okInt (by have := HYL.out y HA.out; omega) (by have := HYL.out y HA.out; omega)) HB37.out)
              go_wp2_with fail
              (with_reducible refine HRC.out.mono ?_)
              rintro e w8 ⟨ra, rn, rc, rfl, hrn, hrr, hb8⟩
              have hrl : (readB T ki 0 y.b.length).length = rn := by have := hrr.length; simpa using this
              have HB8 := Lib.hid (HB6.out.trans (hb8.mono HB6.out.size))
              have HR8 := Lib.hid ((hb8.block _ (Array.getElem?_eq_some_iff.1 HR6.out).1).trans HR6.out)
              have hM8 := HM1.out.step (I := fun _ => False) (fun e => e) (Step.grow HM1.out HB8.out)
              have hS8 := HS1.out.grow HM1.out HB8.out
              have hbo : Below w8.heap.size w8 (w8.alloc (.cells #[.bool false, .int .i64 0, .slice ra rn rc] 128)) := wall w8 _
              have HM9 := Lib.hid (hM8.step (I := fun _ => False) (fun e => e) (Step.grow hM8 hbo))
              have hfree : o1 w8.heap.size = 0 := Decidable.byContradiction fun h9 => by have := (hM8.new _ h9).2; omega
              have hM6 := HM1.out.step (I := fun _ => False) (fun e => e) (Step.grow HM1.out HB6.out)
              have hrow : RowAt (Free o1 (w8.alloc (.cells #[.bool false, .int .i64 0, .slice ra rn rc] 128))) (w8.alloc (.cells #[.bool false, .int .i64 0, .slice ra rn rc] 128)) ra rn ((readB T ki 0 y.b.length).map bv) := (RowAt.new_free hM6 hrr).move hbo.size fun b hb hbw => ⟨⟨hb.1, Nat.lt_of_lt_of_le hb.2 hbo.size⟩, hbo.block b hbw⟩
              have hfd : FdAt o1 (w8.alloc (.cells #[.bool false, .int .i64 0, .slice ra rn rc] 128)) (ptr w8.heap.size) (some ⟨false, 0, readB T ki 0 y.b.length⟩) := by
                refine ⟨w8.heap.size, ra, rc, rfl, hfree, by simp, ?_, by rw [hrl]; exact hrn, by rw [hrl]; exact hrow⟩
                rw [hrl]
                exact (MapKept.heap_alloc w8 _).1
              have HPUT := Lib.hid ((hS8.grow hM8 hbo).put HM9.out HKK.out fm hm8 (ptr w8.heap.size) _ hfd)
              obtain ⟨t', s', v', k1, k2, k3, k4⟩ := (hS8.grow hM8 hbo).at_
              obtain ⟨y0, y1, y2, y3, y4⟩ := st_cells k1
              have hzm := y3 fm hm8
              have hzf := y4 (3 + fm)
              have HR9 : Hid (((w8.alloc (.cells #[.bool false, .int .i64 0, .slice ra rn rc] 128)).setCell ⟨p, 3 + fm, none⟩ (ptr w8.heap.size)).heap[w.heap.size]? = some (.cells (reC (noM 0) none none 0 0) 33 (0, 0))) := Lib.hid ((HPUT.out.1.block (b := w.heap.size) (Nat.lt_of_lt_of_le (Array.getElem?_eq_some_iff.1 HR8.out).1 hbo.size) (by rw [HL1.out]; exact fun e => n10 e.symm)).trans ((hbo.block _ (Array.getElem?_eq_some_iff.1 HR8.out).1).trans HR8.out))
              have i0 : (0 : Int) ≤ fm := by omega
              have i1 : (fm : Int) < 8 := by omega
              have HB9 := Lib.hid (HB8.out.trans (hbo.mono HB8.out.size))
              clear k1 k2 k3 k4 hS8 hM8 hfree y0 y1 y2 y3 y4 hbo hrow hfd hrr hb8 hrl hM6
              go_wp2_with (refine wpList_store_rep (by rfl) 33 _ _ (by rfl) w.heap.size (reC ⟨0, fm, [], [], none⟩ none none 0 0) (by rfl) (by rfl) _ HR9.out repSize rfl (reC_one _ _ _ _ _) ?_; intro w10 hs10; have HS10 := Lib.hid hs10; clear hs10)
              refine ret_rep rfl rfl rfl HS10.out.1 ?_
              have e2 : sopenM M ls id = (⟨0, fm, [], [], none⟩, M.put fm (some ⟨false, 0, readB T ki 0 y.b.length⟩)) := by
                refine HOT.out.trans ((if_neg (fun h => h HZ.out)).trans ?_)
                rw [HA.out]
                refine (if_neg HK.out).trans ((if_neg (by rw [HCL.out]; simp)).trans ?_)
                rw [← HV.out]
                rfl
              rw [e2]
              have hM10 := HM9.out.step (I := fun m => m = k) (fun e => n3 e.symm) HPUT.out.1
              have hst := HS10.out.step hM10 HL1.out
              exact ⟨o1, ⟨_, rfl, none, none, 0, 0, rfl, Nat.le_refl _, Nat.le_refl _, RowAt.nil _ _ _, strs_nil _ _⟩, (((HST1.out.mono fun m hm => .inr (.inr (.inr hm))).trans (Step.grow HM1.out HB9.out)).trans (HPUT.out.1.mono fun m hm => .inr (.inr (.inl hm)))).trans (hst.mono fun m hm => .inr (.inr (.inr hm))), HPUT.out.2.step (fun e => n4 e.symm) n7 n9 n10 hst⟩
      · have HZ := Lib.hid hz
        have hz2 : (ke != 0) = true := by simpa using hz
        clear hz
        go_wp2_with fail
        (with_reducible refine (no_any _ _).mono ?_)
        rintro e w9 ⟨rfl, hb9⟩
        unfold noV
        have HB9 := Lib.hid (HB5.out.trans (hb9.mono HB5.out.size))
        have HR9 := Lib.hid ((hb9.block _ (Array.getElem?_eq_some_iff.1 HR5.out).1).trans HR5.out)
        clear hb9
        go_wp2_with (refine wpList_store_rep (by rfl) 33 _ _ (by rfl) w.heap.size (reC (noM ke) none none 0 0) (by rfl) (by rfl) _ HR9.out repSize rfl (reC_one _ _ _ _ _) ?_; intro w10 hs10; have HS10 := Lib.hid hs10; clear hs10)
        refine ret_rep rfl rfl rfl HS10.out.1 ?_
        have e2 : sopenM M ls id = (noM ke, M) := HOT.out.trans (if_pos HZ.out)
        rw [e2]
        exact HEND.out _ _ _ HB9.out HS10.out rfl rfl
end
end Go.Proofs.YtpgklnhkfgbpgaaGreatDoor
namespace Go.Proofs.YtpgklnhkfgbpgaaGreatDoor
open Go.ChangeShapes Go.WideShapes Go.ChangeAt Go.RowKit

def dueB (a b : Int) : Bool := decide (b ≤ a)
def nextOf (now tick : Int) : Int := if tick ≤ 1099511627776 then max now tick else now

theorem right_any (t : Int) (w : World) :
    Calls Tryz.prog 98 #[.int .u64 t] w fun e w' => e = .returned (.bool (decide (t ≤ 1099511627776))) ∧ w = w' := by
  go_enter Tryz.func98, Tryz.ntmps98
  go_wp2
  go_ret
  exact ⟨rfl, rfl⟩

theorem due_any (a b : Int) (w : World) :
    Calls Tryz.prog 126 #[.int .u64 a, .int .u64 b] w fun e w' => e = .returned (.bool (dueB a b)) ∧ w = w' := by
  go_enter Tryz.func126, Tryz.ntmps126
  go_wp2
  go_ret
  exact ⟨rfl, rfl⟩


theorem next_any (a b : Int) (w : World) :
    Calls Tryz.prog 50 #[.int .u64 a, .int .u64 b] w fun e w' => e = .returned (.int .u64 (nextOf a b)) ∧ w = w' := by
  by_cases h : b ≤ 1099511627776
  · go_enter Tryz.func50, Tryz.ntmps50
    go_wp2
    all_goals
      go_ret
      exact ⟨ret_int (by unfold nextOf; split <;> omega), rfl⟩
  · go_enter Tryz.func50, Tryz.ntmps50
    go_wp2
    all_goals
      go_ret
      exact ⟨ret_int (by unfold nextOf; split <;> omega), rfl⟩


end Go.Proofs.YtpgklnhkfgbpgaaGreatDoor
