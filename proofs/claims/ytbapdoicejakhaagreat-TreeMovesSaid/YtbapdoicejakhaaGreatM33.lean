/- The reference: links. The reference: its small steps, on trees. -/
import Derived.Test.YtbapdoicejakhaaGreatM32
import Derived.Test.YtbapdoicejakhaaGreatM31
import Derived.Test.YtbapdoicejakhaaGreatM23
namespace Go.Proofs.YtbapdoicejakhaaGreat
open Go.ChangeShapes Go.WideShapes Go.ChangeAt Go.RowKit
set_option linter.unusedVariables false
set_option linter.unusedSimpArgs false

/-- What a walk needs of a new row of nodes. -/
theorem NodesSet.facts {w wx : World} {r : Nat} {x1 x2 : Value} {T : TrM} (h : NodesSet w r x1 x2 T wx) {k : Nat} {q : Int × ItM} (hq : T[k]? = some q) : ∃ g off c, wx.cell? ⟨r, 0, none⟩ = some (.slice (some ⟨g, off, none⟩) T.length c) ∧ wx.cell? ⟨r, 1, none⟩ = some x1 ∧ wx.cell? ⟨r, 2, none⟩ = some x2 ∧ T.length ≤ c ∧ (∀ j, wx.frozen? ⟨r, j, none⟩ = false) ∧ g ≠ r ∧ w.heap.size ≤ g ∧ g < wx.heap.size ∧ r < wx.heap.size ∧ (∀ j, wx.frozen? ⟨g, j, none⟩ = false) ∧
    (wx.cell? ⟨g, off + k * 6, none⟩ = some (.int .i64 q.1) ∧ wx.cell? ⟨g, off + k * 6 + 1, none⟩ = some (.int .i64 q.2.kind) ∧ wx.cell? ⟨g, off + k * 6 + 2, none⟩ = some (.int .i64 q.2.links) ∧ wx.cell? ⟨g, off + k * 6 + 3, none⟩ = some (.int .i64 q.2.b.length) ∧ wx.cell? ⟨g, off + k * 6 + 4, none⟩ = some (.int .u64 q.2.til) ∧ wx.cell? ⟨g, off + k * 6 + 5, none⟩ = some (.bool q.2.closed)) := by
  obtain ⟨hK, hr, a, c, h2, h3, h4, hp⟩ := h
  obtain ⟨g, off, rfl, hF, hb, hi, hc⟩ := h4.wide nodeC_len rfl hq (by omega)
  obtain ⟨p0, p1, p2, pf⟩ := head_facts h2
  have := hF.1
  have hs := hK.size
  exact ⟨g, off, c, p0, p1, p2, h3, pf, by omega, hF.1, hb, by omega, hp.frozen, hc 0 (by omega), hc 1 (by omega), hc 2 (by omega), hc 3 (by omega), hc 4 (by omega), hc 5 (by omega)⟩
section
variable {F : Nat → Prop} {r : Nat} {T : TrM} {D : List (List UInt8)} {E : List Ent}
set_option maxRecDepth 100000 in
set_option maxHeartbeats 8000000 in
theorem rlinks_any (id by_ : Int) (k : Nat) (q : Int × ItM) (w : World) (h : RefP F w r T D E) (hl : T.length ≤ 64) (hi : idxI (isAt id) T = k) (hq : T[k]? = some q) (hb0 : -1 ≤ by_ ∧ by_ ≤ 1) (hl0 : 0 ≤ q.2.links ∧ q.2.links ≤ 64) :
    Calls Tryz.prog 72 #[ptr r, .int .i64 id, .int .i64 by_] w (RTurnP F w r (T.set k (q.1, { q.2 with links := q.2.links + by_ })) D E (.tuple #[])) := by
  obtain ⟨i6, a6, b6, s6, d6⟩ := info_parts nodeInfo
  have HI6 := Lib.hid (And.intro a6 (And.intro b6 (And.intro s6 d6)))
  have hk : k < T.length := (List.getElem?_eq_some_iff.1 hq).1
  have HAT := Lib.hid (rat_any id w h hl)
  rw [hi] at HAT
  have HH := Lib.hid h
  have HQ := Lib.hid hq
  obtain ⟨aN, cN, aD, cD, aE, cE, h1, h2, h3, h4, h8, h9, h10, h11⟩ := h.head
  obtain ⟨bN, oN, rfl, hFN, hbN, -, -⟩ := h8.wide nodeC_len rfl hq (by omega)
  have hrw := h.low r h.own
  obtain ⟨p0, p1, p2, pf⟩ := head_facts h1
  have HP1 := Lib.hid h1
  have HSR := Lib.hid h8
  obtain ⟨n, hn⟩ : ∃ n, n = T.length := ⟨_, rfl⟩
  rw [← hn] at p0 hl hk h2 HSR
  have HNE := Lib.hid hn
  have hf0 := pf 0
  have hfp := hFN.2
  have i0 : (0 : Int) ≤ k := by omega
  have i2 : (k : Int) < n := by omega
  have e1 : IntKind.i64.wrap (q.2.links + by_) = q.2.links + by_ := IntWalk.i64_in _ (by omega)
  clear a6 b6 s6 d6 h1 h8 h9 h10 h11 hi h hq hn p1 p2 pf hFN
  go_enter Tryz.func72, Tryz.ntmps72
  go_wp2_with fail
  (with_reducible refine HAT.out.mono ?_)
  rintro e w' ⟨rfl, rfl⟩
  go_upto_region 1 with (fail)
  go_cut [] (fun wx => NodesSet w r (.slice aD D.length cD) (.slice aE E.length cE) T wx)
  case first =>
    go_wp2_with ((at_builtin; refine wpList_append_rows rfl _ _ 97 rfl w.heap.size 29 _ _ 6 48 Tryz.underlying97 HI6.out.1 HI6.out.2.1 HI6.out.2.2.1 HI6.out.2.2.2 rfl (by omega) _ 0 [] rfl (own_new (MapKept.heap_alloc w _).1 (Nat.le_refl _)) _ n _ (T.flatMap nodeC) rfl (HSR.out.below ((Below.refl _ _).alloc (Nat.le_refl _) _) (Nat.le_refl _)) (nodeC_one _) (by unfold maxLen; omega) (by omega) (by simp) ?_; intro A1 c1 w1 hown1 hb1; have hB1 := ((Below.refl w.heap.size w).alloc (Nat.le_refl _) _).trans hb1; have hf1 : w1.frozen? ⟨r, 0, none⟩ = false := (hB1.frozen (p := ⟨r, 0, none⟩) hrw).trans hf0; have hc1 := (hB1.cell (p := ⟨r, 0, none⟩) hrw).trans p0))
    go_meet
    obtain ⟨-, hcc, -, hrow2⟩ := own_row (w := w) hown1 (by unfold maxLen; omega) (Nat.le_refl _)
    have hn := HNE.out
    rw [List.nil_append, Nat.zero_add, hn] at hrow2
    rw [Nat.zero_add, hn] at hcc
    have := NodesSet.mk_ hrw HP1.out hB1 hcc hrow2 (own_plain hown1)
    rw [← hn] at this
    exact this
  case rest =>
    obtain ⟨w1, rfl⟩ : ∃ w1 : World, w1 = wc := ⟨_, rfl⟩
    obtain ⟨g, off, c, q0, -, -, hlc, qf, hgr, hg1, hg2, hr1, gf, c0, -, c2, -, -, -⟩ := hcut.facts HQ.out
    rw [← HNE.out] at q0
    have gf2 := gf (off + k * 6 + 2)
    have HM := Lib.hid hcut
    have HC0 := Lib.hid q0
    clear hcut c0 qf gf hlc
    go_wp2
    refine wp_region_noPanic ?_
    refine wp_region_L (last := 17) (S := (fun w' => w'.cell? ⟨r, 0, none⟩ = some (.slice (some ⟨g, off, none⟩) n c) ∧ w'.cell? ⟨g, off + k * 6 + 2, none⟩ = some (.int .i64 q.2.links) ∧ w'.frozen? ⟨g, off + k * 6 + 2, none⟩ = false)) (by kernel_rfl) ?_ (fun hS => ?_)
    · exact ⟨q0, c2, gf2⟩
    refine wpAnyL_take (i := 0) (oi := ?oi1) (v := ?v1) ?hi1 (by kernel_rfl) (by kernel_rfl) (by kernel_rfl) (by kernel_rfl) (by kernel_rfl) ?hq1 (Or.inl ⟨?hw1, ?hy1⟩) hS ?rest1
    case hi1 => simp only [List.getElem?_toArray, List.getElem?_cons_succ, List.getElem?_cons_zero]; rfl
    case hq1 => exact fun _ _ _ h => h
    case hw1 => rfl
    case hy1 => intro w hSw; (try dsimp only at hSw); go_simp; (try with_reducible rfl)
    try simp only [Act.put, List.setIfInBounds_toArray, List.set_cons_zero, List.set_cons_succ]
    refine wpAnyL_take (i := 1) (oi := ?oi2) (v := ?v2) ?hi2 (by kernel_rfl) (by kernel_rfl) (by kernel_rfl) (by kernel_rfl) (by kernel_rfl) ?hq2 (Or.inl ⟨?hw2, ?hy2⟩) hS ?rest2
    case hi2 => simp only [List.getElem?_toArray, List.getElem?_cons_succ, List.getElem?_cons_zero]; rfl
    case hq2 => exact fun _ _ _ h => h
    case hw2 => rfl
    case hy2 => intro w hSw; (try dsimp only at hSw); go_simp; (try with_reducible rfl)
    try simp only [Act.put, List.setIfInBounds_toArray, List.set_cons_zero, List.set_cons_succ]
    refine wpAnyL_take (i := 2) (oi := ?oi3) (v := ?v3) ?hi3 (by kernel_rfl) (by kernel_rfl) (by kernel_rfl) (by kernel_rfl) (by kernel_rfl) ?hq3 (Or.inl ⟨?hw3, ?hy3⟩) hS ?rest3
    case hi3 => simp only [List.getElem?_toArray, List.getElem?_cons_succ, List.getElem?_cons_zero]; rfl
    case hq3 => exact fun _ _ _ h => h
    case hw3 => rfl
    case hy3 => intro w hSw; (try dsimp only at hSw); go_simp; (try with_reducible rfl)
    try simp only [Act.put, List.setIfInBounds_toArray, List.set_cons_zero, List.set_cons_succ]
    refine wpAnyL_take (i := 3) (oi := ?oi4) (v := ?v4) ?hi4 (by kernel_rfl) (by kernel_rfl) (by kernel_rfl) (by kernel_rfl) (by kernel_rfl) ?hq4 (Or.inl ⟨?hw4, ?hy4⟩) hS ?rest4
    case hi4 => simp only [List.getElem?_toArray, List.getElem?_cons_succ, List.getElem?_cons_zero]; rfl
    case hq4 => exact fun _ _ _ h => h
    case hw4 => rfl
    case hy4 => intro w hSw; (try dsimp only at hSw); go_simp; (try with_reducible rfl)
    try simp only [Act.put, List.setIfInBounds_toArray, List.set_cons_zero, List.set_cons_succ]
    refine wpAnyL_take (i := 4) (oi := ?oi5) (v := ?v5) ?hi5 (by kernel_rfl) (by kernel_rfl) (by kernel_rfl) (by kernel_rfl) (by kernel_rfl) ?hq5 (Or.inl ⟨?hw5, ?hy5⟩) hS ?rest5
    case hi5 => simp only [List.getElem?_toArray, List.getElem?_cons_succ, List.getElem?_cons_zero]; rfl
    case hq5 => exact fun _ _ _ h => h
    case hw5 => rfl
    case hy5 => intro w hSw; (try dsimp only at hSw); go_simp; (try with_reducible rfl)
    try simp only [Act.put, List.setIfInBounds_toArray, List.set_cons_zero, List.set_cons_succ]
    refine wpAnyL_take (i := 5) (oi := ?oi6) (v := ?v6) ?hi6 (by kernel_rfl) (by kernel_rfl) (by kernel_rfl) (by kernel_rfl) (by kernel_rfl) ?hq6 (Or.inl ⟨?hw6, ?hy6⟩) hS ?rest6
    case hi6 => simp only [List.getElem?_toArray, List.getElem?_cons_succ, List.getElem?_cons_zero]; rfl
    case hq6 => exact fun _ _ _ h => h
    case hw6 => rfl
    case hy6 => intro w hSw; (try dsimp only at hSw); go_simp; (try with_reducible rfl)
    try simp only [Act.put, List.setIfInBounds_toArray, List.set_cons_zero, List.set_cons_succ]
    refine wpAnyL_take (i := 6) (oi := ?oi7) (v := ?v7) ?hi7 (by kernel_rfl) (by kernel_rfl) (by kernel_rfl) (by kernel_rfl) (by kernel_rfl) ?hq7 (Or.inl ⟨?hw7, ?hy7⟩) hS ?rest7
    case hi7 => simp only [List.getElem?_toArray, List.getElem?_cons_succ, List.getElem?_cons_zero]; rfl
    case hq7 => exact fun _ _ _ h => h
    case hw7 => rfl
    case hy7 => intro w hSw; (try dsimp only at hSw); go_simp; (try with_reducible rfl)
    try simp only [Act.put, List.setIfInBounds_toArray, List.set_cons_zero, List.set_cons_succ]
    refine wpAnyL_take (i := 7) (oi := ?oi8) (v := ?v8) ?hi8 (by kernel_rfl) (by kernel_rfl) (by kernel_rfl) (by kernel_rfl) (by kernel_rfl) ?hq8 (Or.inl ⟨?hw8, ?hy8⟩) hS ?rest8
    case hi8 => simp only [List.getElem?_toArray, List.getElem?_cons_succ, List.getElem?_cons_zero]; rfl
    case hq8 => exact fun _ _ _ h => h
    case hw8 => rfl
    case hy8 => intro w hSw; (try dsimp only at hSw); go_simp; (try with_reducible rfl)
    try simp only [Act.put, List.setIfInBounds_toArray, List.set_cons_zero, List.set_cons_succ]
    refine wpAnyL_take (i := 8) (oi := ?oi9) (v := ?v9) ?hi9 (by kernel_rfl) (by kernel_rfl) (by kernel_rfl) (by kernel_rfl) (by kernel_rfl) ?hq9 (Or.inl ⟨?hw9, ?hy9⟩) hS ?rest9
    case hi9 => simp only [List.getElem?_toArray, List.getElem?_cons_succ, List.getElem?_cons_zero]; rfl
    case hq9 => exact fun _ _ _ h => h
    case hw9 => rfl
    case hy9 => intro w hSw; (try dsimp only at hSw); go_simp; (try with_reducible rfl)
    try simp only [Act.put, List.setIfInBounds_toArray, List.set_cons_zero, List.set_cons_succ]
    refine wpAnyL_take (i := 9) (oi := ?oi10) (v := ?v10) ?hi10 (by kernel_rfl) (by kernel_rfl) (by kernel_rfl) (by kernel_rfl) (by kernel_rfl) ?hq10 (Or.inl ⟨?hw10, ?hy10⟩) hS ?rest10
    case hi10 => simp only [List.getElem?_toArray, List.getElem?_cons_succ, List.getElem?_cons_zero]; rfl
    case hq10 => exact fun _ _ _ h => h
    case hw10 => rfl
    case hy10 => intro w hSw; (try dsimp only at hSw); go_simp; (try with_reducible rfl)
    try simp only [Act.put, List.setIfInBounds_toArray, List.set_cons_zero, List.set_cons_succ]
    refine wpAnyL_take (i := 10) (oi := ?oi11) (v := ?v11) ?hi11 (by kernel_rfl) (by kernel_rfl) (by kernel_rfl) (by kernel_rfl) (by kernel_rfl) ?hq11 (Or.inl ⟨?hw11, ?hy11⟩) hS ?rest11
    case hi11 => simp only [List.getElem?_toArray, List.getElem?_cons_succ, List.getElem?_cons_zero]; rfl
    case hq11 => exact fun _ _ _ h => h
    case hw11 => rfl
    case hy11 => intro w hSw; (try dsimp only at hSw); go_simp; (try with_reducible rfl)
    try simp only [Act.put, List.setIfInBounds_toArray, List.set_cons_zero, List.set_cons_succ]
    refine wpAnyL_take (i := 11) (oi := ?oi12) (v := ?v12) ?hi12 (by kernel_rfl) (by kernel_rfl) (by kernel_rfl) (by kernel_rfl) (by kernel_rfl) ?hq12 (Or.inl ⟨?hw12, ?hy12⟩) hS ?rest12
    case hi12 => simp only [List.getElem?_toArray, List.getElem?_cons_succ, List.getElem?_cons_zero]; rfl
    case hq12 => exact fun _ _ _ h => h
    case hw12 => rfl
    case hy12 => intro w hSw; (try dsimp only at hSw); go_simp; (try with_reducible rfl)
    try simp only [Act.put, List.setIfInBounds_toArray, List.set_cons_zero, List.set_cons_succ]
    refine wpAnyL_take (i := 12) (oi := ?oi13) (v := ?v13) ?hi13 (by kernel_rfl) (by kernel_rfl) (by kernel_rfl) (by kernel_rfl) (by kernel_rfl) ?hq13 (Or.inl ⟨?hw13, ?hy13⟩) hS ?rest13
    case hi13 => simp only [List.getElem?_toArray, List.getElem?_cons_succ, List.getElem?_cons_zero]; rfl
    case hq13 => exact fun _ _ _ h => h
    case hw13 => rfl
    case hy13 => intro w hSw; (try dsimp only at hSw); go_simp; (try with_reducible rfl)
    try simp only [Act.put, List.setIfInBounds_toArray, List.set_cons_zero, List.set_cons_succ]
    refine wpAnyL_take (i := 13) (oi := ?oi14) (v := ?v14) ?hi14 (by kernel_rfl) (by kernel_rfl) (by kernel_rfl) (by kernel_rfl) (by kernel_rfl) ?hq14 (Or.inl ⟨?hw14, ?hy14⟩) hS ?rest14
    case hi14 => simp only [List.getElem?_toArray, List.getElem?_cons_succ, List.getElem?_cons_zero]; rfl
    case hq14 => exact fun _ _ _ h => h
    case hw14 => rfl
    case hy14 => intro w hSw; (try dsimp only at hSw); go_simp; (try with_reducible rfl)
    try simp only [Act.put, List.setIfInBounds_toArray, List.set_cons_zero, List.set_cons_succ]
    refine wpAnyL_take (i := 14) (oi := ?oi15) (v := ?v15) ?hi15 (by kernel_rfl) (by kernel_rfl) (by kernel_rfl) (by kernel_rfl) (by kernel_rfl) ?hq15 (Or.inl ⟨?hw15, ?hy15⟩) hS ?rest15
    case hi15 => simp only [List.getElem?_toArray, List.getElem?_cons_succ, List.getElem?_cons_zero]; rfl
    case hq15 => exact fun _ _ _ h => h
    case hw15 => rfl
    case hy15 => intro w hSw; (try dsimp only at hSw); go_simp; (try with_reducible rfl)
    try simp only [Act.put, List.setIfInBounds_toArray, List.set_cons_zero, List.set_cons_succ]
    refine wpAnyL_take (i := 15) (oi := ?oi16) (v := ?v16) ?hi16 (by kernel_rfl) (by kernel_rfl) (by kernel_rfl) (by kernel_rfl) (by kernel_rfl) ?hq16 (Or.inl ⟨?hw16, ?hy16⟩) hS ?rest16
    case hi16 => simp only [List.getElem?_toArray, List.getElem?_cons_succ, List.getElem?_cons_zero]; rfl
    case hq16 => exact fun _ _ _ h => h
    case hw16 => rfl
    case hy16 => intro w hSw; (try dsimp only at hSw); go_simp; (try with_reducible rfl)
    try simp only [Act.put, List.setIfInBounds_toArray, List.set_cons_zero, List.set_cons_succ]
    refine wpAnyL_take (i := 16) (oi := ?oi17) (v := ?v17) ?hi17 (by kernel_rfl) (by kernel_rfl) (by kernel_rfl) (by kernel_rfl) (by kernel_rfl) ?hq17 (Or.inl ⟨?hw17, ?hy17⟩) hS ?rest17
    case hi17 => simp only [List.getElem?_toArray, List.getElem?_cons_succ, List.getElem?_cons_zero]; rfl
    case hq17 => exact fun _ _ _ h => h
    case hw17 => rfl
    case hy17 => intro w hSw; (try dsimp only at hSw); go_simp; (try with_reducible rfl)
    try simp only [Act.put, List.setIfInBounds_toArray, List.set_cons_zero, List.set_cons_succ]
    refine wpAnyL_ready (rs := [17]) (by kernel_rfl) (by simp) ?_
    refine AllReadyL.cons (o := ?o18) ?ho18 (fun K hK => ?_) AllReadyL.nil
    case ho18 => simp only [List.getElem?_toArray, List.getElem?_cons_succ, List.getElem?_cons_zero]; rfl
    go_simp
    refine hK.out _ _ (fun h => absurd rfl h) (fun hS => ?_)
    clear hS hK K
    try simp only [Act.put, List.setIfInBounds_toArray, List.set_cons_zero, List.set_cons_succ]
    refine wpAnyL_done (by kernel_rfl) ?_ _
    refine NoPanic.normal ?_
    go_wp2
    go_end0
    have h0 := HC0.out
    rw [HNE.out] at h0
    have := RefP.nodes_turn HH.out HP1.out (NodesSet.set_ HM.out h0 (k := k) (j := 2) (q' := (q.1, { q.2 with links := q.2.links + by_ })) (v := .int .i64 (q.2.links + by_)) HQ.out (by omega) rfl) (.tuple #[])
    rw [← Nat.add_assoc] at this
    exact this.then_ HH.out.low (Below.refl _ _).drew
end
end Go.Proofs.YtbapdoicejakhaaGreat
namespace Go.Proofs.YtbapdoicejakhaaGreat
open Go.ChangeShapes Go.WideShapes Go.ChangeAt Go.RowKit
set_option linter.unusedVariables false
set_option linter.unusedSimpArgs false

/-- What the reference's small steps need of a tree. -/
structure Lax (T : TrM) : Prop where
  sorted : ASorted ilt T
  names : ∀ q ∈ T, ASorted bytesBefore q.2.names
  len : T.length ≤ 64
  few : (entsM T).length ≤ 5000
theorem Lax.of {T : TrM} (h : OkM T) : Lax T := ⟨h.sorted, fun q hq => (h.each _ _ (aget_of_mem iltLaws h.sorted hq)).sorted, h.len, by have := ents_few h; omega⟩
theorem amod_mem {T : TrM} {d : Int} {f : ItM → ItM} {q : Int × ItM} (h : q ∈ amod d f T) : q ∈ T ∨ ∃ p ∈ T, p.1 = d ∧ q = (p.1, f p.2) := by
  unfold amod at h
  obtain ⟨p, hp, e⟩ := List.mem_map.1 h
  by_cases hd : p.1 = d
  · rw [if_pos hd] at e
    exact .inr ⟨p, hp, hd, e.symm⟩
  · rw [if_neg hd] at e
    exact .inl (e ▸ hp)
theorem Lax.cut {T : TrM} (h : Lax T) (d : Int) (n : Nm) : Lax (cutName T d n) := by
  refine ⟨amod_sorted _ _ h.sorted, fun q hq => ?_, by unfold cutName; rw [amod_length]; exact h.len, ?_⟩
  · rcases amod_mem hq with h1 | ⟨p, hp, _, rfl⟩
    · exact h.names q h1
    · exact (h.names p hp).adel _
  · rw [← ents_cut]
    exact Nat.le_trans (List.length_filter_le _ _) h.few
theorem Lax.amod {T : TrM} (h : Lax T) (d : Int) {f : ItM → ItM} (hf : ∀ x, (f x).names = x.names) : Lax (Go.Proofs.YtbapdoicejakhaaGreat.amod d f T) := by
  refine ⟨amod_sorted _ _ h.sorted, fun q hq => ?_, by rw [amod_length]; exact h.len, by rw [ents_amod hf]; exact h.few⟩
  rcases amod_mem hq with h1 | ⟨p, hp, _, rfl⟩
  · exact h.names q h1
  · show ASorted bytesBefore (f p.2).names
    rw [hf]; exact h.names p hp
theorem addE_length (E : List Ent) (d : Int) (nm : Nm) (id : Int) : (addE E d nm id).length = E.length + 1 := by
  unfold addE
  have := congrArg List.length (List.takeWhile_append_dropWhile (p := entLt d nm) (l := E))
  rw [List.length_append] at this
  rw [List.length_append, List.length_cons]
  omega
theorem Lax.get {T : TrM} (h : Lax T) {d : Int} {x : ItM} (hx : aget d T = some x) : ASorted bytesBefore x.names := h.names (d, x) (aget_mem hx)
theorem lax_ent {T : TrM} (h : Lax T) {id j : Int} {x : ItM} {nm : Nm} (hx : aget id T = some x) (hn : aget nm x.names = some j) : ∃ k : Nat, idxI (isEnt id nm) (entsM T) = k ∧ (entsM T)[k]? = some (id, nm, j) := by
  have hmem : ((id, nm, j) : Ent) ∈ entsM T := (mem_ents h.sorted).2 ⟨x, hx, aget_mem hn⟩
  cases hf : (entsM T).findIdx? (isEnt id nm) with
  | none =>
    rw [List.findIdx?_eq_none_iff] at hf
    have := hf _ hmem
    simp [isEnt] at this
  | some k =>
    refine ⟨k, by simp [idxI, hf], ?_⟩
    rw [List.findIdx?_eq_some_iff_getElem] at hf
    obtain ⟨hk, hp, _⟩ := hf
    have h1 : (entsM T)[k]? = some (entsM T)[k] := List.getElem?_eq_getElem hk
    obtain ⟨e, he⟩ : ∃ e, e = (entsM T)[k] := ⟨_, rfl⟩
    have hm := List.getElem_mem hk
    rw [← he] at h1 hp hm
    simp only [isEnt, decide_eq_true_eq] at hp
    obtain ⟨y, hy, hm2⟩ := (mem_ents h.sorted).1 hm
    rw [hp.1, hx] at hy
    cases hy
    have h3 := aget_of_mem bbLt (h.get hx) hm2
    rw [hp.2, hn] at h3
    rw [h1]
    congr 1
    exact Prod.ext hp.1 (Prod.ext hp.2 (Option.some.inj h3).symm)
theorem Lax.put {T : TrM} (h : Lax T) {d : Int} {x : ItM} {n : Nm} (hx : aget d T = some x) (hn : aget n x.names = none) (hf : (entsM T).length ≤ 4096) (id : Int) : Lax (setName T d n id) := by
  refine ⟨amod_sorted _ _ h.sorted, fun q hq => ?_, by unfold setName; rw [amod_length]; exact h.len, ?_⟩
  · rcases amod_mem hq with h1 | ⟨p, hp, _, rfl⟩
    · exact h.names q h1
    · exact (h.names p hp).aput bbLt _ _
  · rw [← ents_add h.sorted hx (h.get hx) hn, addE_length]
    omega
theorem RTurnP.val {F : Nat → Prop} {w w' : World} {r : Nat} {T : TrM} {D : List (List UInt8)} {E : List Ent} {v : Value} {e : Ending} (h : RTurnP F w r T D E v e w') (v2 : Value) : RTurnP F w r T D E v2 (.returned v2) w' := ⟨rfl, h.2.1, h.2.2⟩
section
variable {F : Nat → Prop} {r : Nat} {T : TrM}
theorem rcut_tr (d : Int) (nm : Nm) (j : Int) (x : ItM) (w : World) (h : RefAt F w r T) (hL : Lax T) (hx : aget d T = some x) (hn : aget nm x.names = some j) :
    ∃ k : Nat, idxI (isEnt d nm) (entsM T) = k ∧ Calls Tryz.prog 68 #[ptr r, .int .i64 k] w (RTurn F w r (cutName T d nm) (.tuple #[])) := by
  obtain ⟨k, hk, he⟩ := lax_ent hL hx hn
  refine ⟨k, hk, (rcut_at k w h (List.getElem?_eq_some_iff.1 he).1 (by have := hL.few; omega)).mono fun e w' ht => ?_⟩
  have h1 : (entsM T).take k ++ (entsM T).drop (k + 1) = entsM (cutName T d nm) := by
    rw [cut_filter (p := isEnt d nm) he (by simp [isEnt]) (ents_apart hL.sorted hL.names d nm), ents_cut]
  rw [h1] at ht
  refine ⟨ht.1, ht.2.1, ?_⟩
  have := ht.2.2.names (T' := cutName T d nm) (amod_length _ _ _) (nodes_amod (id := d) (f := fun x => { x with names := adel nm x.names }) (fun _ => rfl) T)
  unfold cutName at this ⊢
  rw [data_amod (fun _ => by exact rfl)]
  exact this
theorem radd_tr (d : Int) (nm : Nm) (id : Int) (x : ItM) (w : World) (h : RefAt F w r T) (hL : Lax T) (hx : aget d T = some x) (hn : aget nm x.names = none) :
    Calls Tryz.prog 65 #[ptr r, .int .i64 d, .string (strOf nm), .int .i64 id] w (RTurn F w r (setName T d nm id) (.tuple #[])) := by
  refine (radd_at d nm id w h (by have := hL.few; omega)).mono fun e w' ht => ?_
  rw [ents_add hL.sorted hx (hL.get hx) hn] at ht
  refine ⟨ht.1, ht.2.1, ?_⟩
  have := ht.2.2.names (T' := setName T d nm id) (amod_length _ _ _) (nodes_amod (id := d) (f := fun x => { x with names := aput bytesBefore nm id x.names }) (fun _ => rfl) T)
  unfold setName at this ⊢
  rw [data_amod (fun _ => by exact rfl)]
  exact this
theorem rlinks_tr (id by_ : Int) (x : ItM) (w : World) (h : RefAt F w r T) (hL : Lax T) (hx : aget id T = some x) (hb0 : -1 ≤ by_ ∧ by_ ≤ 1) (hl0 : 0 ≤ x.links ∧ x.links ≤ 64) :
    Calls Tryz.prog 72 #[ptr r, .int .i64 id, .int .i64 by_] w (RTurn F w r (amod id (fun x => { x with links := x.links + by_ }) T) (.tuple #[])) := by
  obtain ⟨k, hk, hq⟩ := idx_some hL.sorted hx
  refine (rlinks_any id by_ k (id, x) w h hL.len hk hq hb0 hl0).mono fun e w' ht => ?_
  have h1 := amod_at (f := fun x : ItM => { x with links := x.links + by_ }) hL.sorted hq
  simp only at h1 ht
  rw [h1] at ht
  refine ⟨ht.1, ht.2.1, ?_⟩
  rw [data_amod (fun _ => by exact rfl), ents_amod (fun _ => by exact rfl)]
  exact ht.2.2
theorem rgone_tr (id : Int) (x : ItM) (w : World) (h : RefAt F w r T) (hs : ASorted ilt T) (hl : T.length ≤ 64) (hx : aget id T = some x) (hn : x.names = []) :
    Calls Tryz.prog 69 #[ptr r, .int .i64 id] w (RTurn F w r (adel id T) (.tuple #[])) := by
  obtain ⟨k, hk, hq⟩ := idx_some hs hx
  refine (rgone_any id k w h hl (by rw [List.length_map]) hk (List.getElem?_eq_some_iff.1 hq).1).mono fun e w' ht => ?_
  have h1 := del_at hs hq
  simp only at h1
  rw [← List.map_take, ← List.map_drop, ← List.map_append, h1] at ht
  refine ⟨ht.1, ht.2.1, ?_⟩
  rw [ents_del (fun q hq2 hid => by
    have := aget_of_mem iltLaws hs hq2
    rw [hid, hx] at this
    cases this
    exact hn)]
  exact ht.2.2
end
end Go.Proofs.YtbapdoicejakhaaGreat
