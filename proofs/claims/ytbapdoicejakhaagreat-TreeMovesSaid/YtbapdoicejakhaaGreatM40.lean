/- The reference: Append. -/
import Derived.Test.YtbapdoicejakhaaGreatM36
namespace Go.Proofs.YtbapdoicejakhaaGreat
open Go.ChangeShapes Go.WideShapes Go.ChangeAt Go.RowKit
set_option linter.unusedVariables false
set_option linter.unusedSimpArgs false

theorem appendM_bad {T : TrM} {id : Int} {bs : List UInt8} {v : Int} (h : appendE T id bs = v) (hv : v ≠ 0) : appendM T id bs = (v, T) := by
  unfold appendM
  rw [h, if_neg hv]
/-- Nodes and bytes are new rows. -/
structure BothAt (F : Nat → Prop) (w : World) (r : Nat) (x2 : Value) (T : TrM) (D : List (List UInt8)) (gN oN cN gD oD cD : Nat) (vs : List Value) (wx : World) : Prop where
  keeps : Keeps (fun x => x = r) w wx
  rlt : r < w.heap.size
  head : wx.heap[r]? = some (.cells #[.slice (some ⟨gN, oN, none⟩) T.length cN, .slice (some ⟨gD, oD, none⟩) D.length cD, x2] 100 (0, 0))
  lenN : T.length ≤ cN
  lenD : D.length ≤ cD
  rowN : RowAt (fun b => b = gN) wx (some ⟨gN, oN, none⟩) (T.length * 6) (T.flatMap nodeC)
  plN : Plain wx (some ⟨gN, oN, none⟩)
  rowD : RowAt (fun b => b = gD) wx (some ⟨gD, oD, none⟩) D.length vs
  plD : Plain wx (some ⟨gD, oD, none⟩)
  newN : w.heap.size ≤ gN ∧ gN < wx.heap.size
  newD : w.heap.size ≤ gD ∧ gD < wx.heap.size
  ne : gN ≠ gD
  each : Each (fun b => (F b ∧ b < w.heap.size ∧ b ≠ r) ∨ (w.heap.size ≤ b ∧ b < wx.heap.size ∧ b ≠ gN ∧ b ≠ gD)) wx vs D
def BothSet (F : Nat → Prop) (w : World) (r : Nat) (x2 : Value) (T : TrM) (D : List (List UInt8)) (wx : World) : Prop := ∃ gN oN cN gD oD cD vs, BothAt F w r x2 T D gN oN cN gD oD cD vs wx
theorem both_mk {F : Nat → Prop} {w w1 w2 : World} {r n c : Nat} {x1 x2 : Value} {T : TrM} {D : List (List UInt8)} {a : Option Addr} {vs : List Value} (hm : NodesSet w r x1 x2 T w1) (hT : 0 < T.length) (hn : 0 < n) (hD : D.length = n) (hb : Below w1.heap.size w1 w2)
    (hown : w2.ownsRow w1.heap.size 51 1 (.slice a (0 + n) c) (0 + n) ([] ++ vs)) (hmx : (0 + n) * 1 ≤ maxLen) (he : Each (Off F r) w vs D) (hlow : ∀ b, F b → b < w.heap.size) : BothSet F w r x2 T D (w2.setCell ⟨r, 1, none⟩ (.slice a n c)) := by
  obtain ⟨hK, hr, aN, cN, h2, h3, h4, h5⟩ := hm
  have hs1 := hK.size
  have hs2 := hb.size
  obtain ⟨-, hcc, -, hrow⟩ := RowAt.of_ownk hown hmx
  rw [Nat.zero_add] at hcc
  rw [Nat.zero_add, Nat.mul_one, List.nil_append] at hrow
  obtain ⟨gN, oN, rfl, hFN, hbN, -⟩ := h4.at_ (by omega)
  obtain ⟨gD, oD, rfl, hFD, hbD, -⟩ := hrow.at_ (by omega)
  have hp := own_plain hown
  have hFN1 := hFN.1
  have hFD1 := hFD.1
  have hgNr : gN ≠ r := by omega
  have hgDr : gD ≠ r := by omega
  have hrN : RowAt (fun b => b = gN) w1 (some ⟨gN, oN, none⟩) (T.length * 6) (T.flatMap nodeC) := ⟨h4.length, h4.small, fun h0 => by
    obtain ⟨b, o, e, _, hb', hc'⟩ := h4.at_ h0
    simp only [Option.some.injEq, Addr.mk.injEq, and_true] at e
    obtain ⟨rfl, rfl⟩ := e
    exact ⟨_, _, rfl, rfl, hb', hc'⟩⟩
  have hrD : RowAt (fun b => b = gD) w2 (some ⟨gD, oD, none⟩) n vs := ⟨hrow.length, hrow.small, fun h0 => by
    obtain ⟨b, o, e, _, hb', hc'⟩ := hrow.at_ h0
    simp only [Option.some.injEq, Addr.mk.injEq, and_true] at e
    obtain ⟨rfl, rfl⟩ := e
    exact ⟨_, _, rfl, rfl, hb', hc'⟩⟩
  have hDn := hD
  have hK2 : Keeps (fun x => x = r) w w2 := hK.trans (Keeps.below hb) (fun x hx hf => by omega)
  refine ⟨gN, oN, cN, gD, oD, c, vs, ⟨hK2.trans (Keeps.set_ _ _ _) fun x _ hx => hx, hr, ?_, h3, by rw [hDn]; exact hcc, ?_, ?_, ?_, ?_, ⟨hFN1, by rw [size_set]; omega⟩, ⟨by omega, by rw [size_set]; exact hbD⟩, by omega, ?_⟩⟩
  · rw [heap_set_same ((hb.block r (by omega)).trans h2), hDn]
    rfl
  · exact (hrN.below hb (Nat.le_refl _)).apart ⟨r, 1, none⟩ _ fun b hb' => by subst hb'; exact hgNr
  · exact (h5.kept fun g off e => by
      simp only [Option.some.injEq, Addr.mk.injEq, and_true] at e
      obtain ⟨rfl, _⟩ := e
      exact hb.block _ hbN).set_ _ _ rfl
  · rw [hDn]
    exact hrD.apart ⟨r, 1, none⟩ _ fun b hb' => by subst hb'; exact hgDr
  · exact hp.set_ _ _ rfl
  · refine he.move (by rw [size_set]; omega) fun b hb' hbw => ⟨.inl ⟨hb'.1, hbw, hb'.2⟩, ?_⟩
    rw [heap_set_other _ _ _ _ hb'.2]
    exact hK2.block b hbw hb'.2
theorem both_data {F : Nat → Prop} {w w2 u : World} {r gN oN cN gD oD cD k c n m : Nat} {x2 : Value} {T : TrM} {D : List (List UInt8)} {vs : List Value} {a : Option Addr} {nb : List UInt8} {ys : List Value} (h : BothAt F w r x2 T D gN oN cN gD oD cD vs w2) (hk : k < D.length) (hb : Below w2.heap.size w2 u)
    (hown : u.ownsRow w2.heap.size 5 1 (.slice a m c) m ys) (hys : ys = nb.map bv ∧ m = nb.length ∧ n = m) (hmx : m * 1 ≤ maxLen) : BothSet F w r x2 T (D.set k nb) (u.setCell ⟨gD, oD + k, none⟩ (.slice a n c)) := by
  obtain ⟨rfl, rfl, rfl⟩ := hys
  have hs := hb.size
  have hs0 := h.keeps.size
  have hnN := h.newN
  have hnD := h.newD
  have hne := h.ne
  have hrlt := h.rlt
  obtain ⟨a', c', e, hlc, hcm⟩ := own_form2 hown
  simp only [Value.slice.injEq, true_and] at e
  obtain ⟨rfl, rfl⟩ := e
  obtain ⟨-, -, -, hrow⟩ := RowAt.of_ownk hown hmx
  rw [Nat.mul_one] at hrow
  have hK2 : Keeps (fun x => x = r) w u := h.keeps.trans (Keeps.below hb) (fun x hx hf => by omega)
  have hK3 : Keeps (fun x => x = r) w (u.setCell ⟨gD, oD + k, none⟩ (.slice a nb.length c)) := hK2.trans (fp' := fun x => x = gD) (Keeps.set_ u ⟨gD, oD + k, none⟩ _) (fun x hx hf => by omega)
  refine ⟨gN, oN, cN, gD, oD, cD, vs.set k (.slice a nb.length c), ⟨hK3, hrlt, ?_, h.lenN, by rw [List.length_set]; exact h.lenD, ?_, ?_, ?_, ?_, ⟨hnN.1, by rw [size_set]; omega⟩, ⟨hnD.1, by rw [size_set]; omega⟩, hne, ?_⟩⟩
  · rw [heap_set_other _ _ _ _ (show r ≠ gD by omega), List.length_set]
    exact (hb.block r (by omega)).trans h.head
  · exact (h.rowN.below hb (Nat.le_refl _)).apart ⟨gD, oD + k, none⟩ _ fun b hb' => by subst hb'; exact hne
  · exact (h.plN.kept fun g off e => by
      simp only [Option.some.injEq, Addr.mk.injEq, and_true] at e
      obtain ⟨rfl, _⟩ := e
      exact hb.block _ hnN.2).set_ _ _ rfl
  · have := (h.rowD.below hb (Nat.le_refl _)).set_ (j := k) hk (.slice a nb.length c)
    rw [List.length_set]
    exact this
  · exact (h.plD.kept fun g off e => by
      simp only [Option.some.injEq, Addr.mk.injEq, and_true] at e
      obtain ⟨rfl, _⟩ := e
      exact hb.block _ hnD.2).set_ _ _ rfl
  · have hvl : vs.length = D.length := h.rowD.length
    intro i b hbi
    by_cases hik : i = k
    · subst hik
      rw [List.getElem?_set_self hk] at hbi
      cases hbi
      refine ⟨a, c, List.getElem?_set_self (by omega), ⟨hlc, hcm⟩, ?_⟩
      exact hrow.move (by rw [size_set]; exact Nat.le_refl _) fun b hb1 hb2 => ⟨.inr ⟨by omega, by rw [size_set]; exact hb2, by omega, by omega⟩, heap_set_other _ _ _ _ (show b ≠ gD by omega)⟩
    · rw [List.getElem?_set_ne (Ne.symm hik)] at hbi ⊢
      obtain ⟨a2, c2, e1, e2, e3⟩ := h.each i b hbi
      refine ⟨a2, c2, e1, e2, e3.move (by rw [size_set]; omega) fun b hb1 hb2 => ⟨?_, ?_⟩⟩
      · rcases hb1 with hb1 | hb1
        · exact .inl hb1
        · exact .inr ⟨hb1.1, by rw [size_set]; omega, hb1.2.2⟩
      · have : b ≠ gD := by rcases hb1 with hb1 | hb1 <;> omega
        rw [heap_set_other _ _ _ _ this]
        exact hb.block b hb2
theorem both_end {F : Nat → Prop} {w w3 : World} {r gN oN cN gD oD cD k : Nat} {x0 x1 x2 : Value} {T : TrM} {D0 D : List (List UInt8)} {E : List Ent} {vs : List Value} {q q' : Int × ItM} {v3 : Value} (hR : RefP F w r T D0 E) (h1 : w.heap[r]? = some (.cells #[x0, x1, x2] 100 (0, 0))) (h : BothAt F w r x2 T D gN oN cN gD oD cD vs w3) (hq : T[k]? = some q) (hv : nodeC q' = (nodeC q).set 3 v3) (v : Value) :
    RTurnP F w r (T.set k q') D E v (.returned v) (w3.setCell ⟨gN, oN + (k * 6 + 3), none⟩ v3) := by
  have hnN := h.newN
  have hnD := h.newD
  have hne := h.ne
  have hrlt := h.rlt
  have hkl : k < T.length := (List.getElem?_eq_some_iff.1 hq).1
  obtain ⟨aN, cN', aD, cD', aE, cE, g1, -, g3, g4, -, g9, g10, g11⟩ := hR.head
  rw [h1] at g1
  simp only [Option.some.injEq, Obj.cells.injEq, Array.mk.injEq, List.cons.injEq, and_true, true_and] at g1
  obtain ⟨-, -, rfl⟩ := g1
  have hK3 : Keeps (fun x => x = r) w (w3.setCell ⟨gN, oN + (k * 6 + 3), none⟩ v3) := h.keeps.trans (fp' := fun x => x = gN) (Keeps.set_ w3 ⟨gN, oN + (k * 6 + 3), none⟩ _) (fun x hx hf => by omega)
  refine ⟨rfl, hK3, hR.turn (aN := some ⟨gN, oN, none⟩) (aD := some ⟨gD, oD, none⟩) (cN := cN) (cD := cD) hK3 ?_ (by rw [List.length_set]; exact h.lenN) h.lenD g4 ?_ ⟨vs, ?_, ?_⟩ (row_old hK3 g10) g11⟩
  · rw [heap_set_other _ _ _ _ (show r ≠ gN by omega), List.length_set]
    exact h.head
  · have := h.rowN.set_ (j := k * 6 + 3) (by omega) v3
    rw [flatM_set nodeC 6 nodeC_len (by omega) hv T k hq] at this
    rw [List.length_set]
    exact this.mono fun b hb => ⟨.inr ⟨by omega, by rw [size_set]; omega⟩, by omega⟩
  · exact (h.rowD.apart ⟨gN, oN + (k * 6 + 3), none⟩ v3 fun b hb => by subst hb; exact Ne.symm hne).mono fun b hb => ⟨.inr ⟨by omega, by rw [size_set]; omega⟩, by omega⟩
  · refine h.each.move (by rw [size_set]; exact Nat.le_refl _) fun b hb1 hb2 => ⟨⟨?_, ?_⟩, ?_⟩
    · rcases hb1 with hb1 | hb1
      · exact .inl hb1.1
      · exact .inr ⟨hb1.1, by rw [size_set]; exact hb1.2.1⟩
    · rcases hb1 with hb1 | hb1
      · exact hb1.2.2
      · omega
    · exact heap_set_other _ _ _ _ (show b ≠ gN by rcases hb1 with hb1 | hb1 <;> omega)
theorem BothAt.facts {F : Nat → Prop} {w wx : World} {r gN oN cN gD oD cD k : Nat} {x2 : Value} {T : TrM} {D : List (List UInt8)} {vs : List Value} (h : BothAt F w r x2 T D gN oN cN gD oD cD vs wx) {d : List UInt8} (hd : D[k]? = some d) : ∃ a c, wx.cell? ⟨r, 0, none⟩ = some (.slice (some ⟨gN, oN, none⟩) T.length cN) ∧ wx.cell? ⟨r, 1, none⟩ = some (.slice (some ⟨gD, oD, none⟩) D.length cD) ∧ wx.cell? ⟨gD, oD + k, none⟩ = some (.slice a d.length c) ∧ CapOk d.length c ∧ RowAt (fun b => (F b ∧ b < w.heap.size ∧ b ≠ r) ∨ (w.heap.size ≤ b ∧ b < wx.heap.size ∧ b ≠ gN ∧ b ≠ gD)) wx a d.length (d.map bv) := by
  obtain ⟨a, c, e1, e2, e3⟩ := h.each k d hd
  have hk : k < D.length := (List.getElem?_eq_some_iff.1 hd).1
  obtain ⟨p0, p1, -, -⟩ := head_facts h.head
  obtain ⟨b, o, e, -, hb, hc⟩ := h.rowD.at_ (by omega)
  simp only [Option.some.injEq, Addr.mk.injEq, and_true] at e
  obtain ⟨rfl, rfl⟩ := e
  exact ⟨a, c, p0, p1, (hc k hk).trans e1, e2, e3⟩
section
variable {F : Nat → Prop} {r : Nat} {T : TrM}
theorem info8a : (Tryz.prog.info? 5).map (fun i => (i.zero, i.size, i.bytes)) = some (some (.int .u8 0), 1, 1) := by kernel_rfl
set_option maxRecDepth 100000 in
set_option maxHeartbeats 16000000 in
theorem rappend_any {S : Nat → Prop} (id : Int) (ab : Option Addr) (nb cb : Nat) (bs : List UInt8) (w : World) (h : RefAt F w r T) (hT : OkM T) (hbs : RowAt S w ab nb (bs.map bv)) (hSr : ∀ b, S b → b ≠ r) (hnb : nb ≤ 1000000) :
    Calls Tryz.prog 29 #[ptr r, .int .i64 id, .slice ab nb cb] w (RTurn F w r (appendM T id bs).2 (.int .i64 (appendM T id bs).1)) := by
  have hbl : bs.length = nb := by have := hbs.length; simpa using this
  have HF := Lib.hid (rfile_any id w h hT.toOkP)
  have hr0 := h.low r h.own
  have HH := Lib.hid h
  by_cases h0 : fileE T id = 0
  · obtain ⟨x, hx, hk⟩ : ∃ x, aget id T = some x ∧ x.kind ≠ 2 := by
      unfold fileE at h0
      cases hx : aget id T with
      | none => rw [hx] at h0; cases h0
      | some x =>
        rw [hx] at h0
        exact ⟨x, rfl, fun hk => by simp [hk] at h0⟩
    obtain ⟨k, hi, hq⟩ := idx_some hT.sorted hx
    have hrf : rfI T id = k := by unfold rfI; rw [if_pos h0]; exact hi
    rw [hrf, h0] at HF
    obtain ⟨bN, oN, cN, hc0, hO, hbw, hkl, c0, c1, c2, c3, c4, c5⟩ := h.node hq
    simp only at c0 c1 c2 c3 c4 c5
    have i0 : (0 : Int) ≤ k := by omega
    have hlen := hT.len
    have HQX := Lib.hid hq
    have HS := Lib.hid hT.sorted
    obtain ⟨i6, a6, b6, s6, d6⟩ := info_parts nodeInfo
    have HI6 := Lib.hid (And.intro a6 (And.intro b6 (And.intro s6 d6)))
    obtain ⟨aN, cN', aD, cD, aE, cE, h1, h2, h3, h4, h8, h9, h10, h11⟩ := h.head
    obtain ⟨p0, p1, p2, pf⟩ := head_facts h1
    rw [p0] at hc0
    simp only [Option.some.injEq, Value.slice.injEq, true_and] at hc0
    obtain ⟨rfl, rfl⟩ := hc0
    have HP1 := Lib.hid h1
    have HBS := Lib.hid hbs
    have HSR := Lib.hid h8
    obtain ⟨n, hn⟩ : ∃ n, n = T.length := ⟨_, rfl⟩
    rw [← hn] at p0 hlen hkl h2 HSR
    have HNE := Lib.hid hn
    have hf0 := pf 0
    have hfp := hO.2
    have i1 : (k : Int) < n := by omega
    have hrw := hr0
    have hsz := (hT.each id x hx).size
    have HLOW := Lib.hid h.low
    obtain ⟨vs, hv, hrowE⟩ := h9
    have HO1 := Lib.hid (hT.each id x hx)
    have HX := Lib.hid hx
    have hkx := hk
    clear a6 b6 s6 d6 h1 h8 h10 h11 hi hrf h hq hn p1 p2 pf hO hT h0 hbs
    have he : appendE T id bs = if x.closed then 27 else if 4096 < x.b.length + bs.length then 15 else 0 := by
      unfold appendE
      rw [hx]
      simp only [if_neg hk]
    rw [hbl] at he
    obtain ⟨l, hl⟩ : ∃ l, l = x.b.length := ⟨_, rfl⟩
    rw [← hl] at he hsz c3
    have HBL := Lib.hid hbl
    have HLL := Lib.hid hl
    have HV := Lib.hid hv
    have HEA : Hid (Each (Off F r) w vs (T.map fun q => q.2.b)) := hrowE
    have HVL := Lib.hid hv.length
    have HSD := Lib.hid hSr
    clear hx hk hl hv hrowE hbl hSr
    cases hcl : x.closed with
    | true =>
      rw [hcl] at c5
      have HQ := Lib.hid (appendM_bad (he.trans (if_pos hcl)) (by omega))
      clear hcl he
      go_enter Tryz.func29, Tryz.ntmps29
      go_wp2_with fail
      (with_reducible refine HF.out.mono ?_)
      rintro e w1 ⟨rfl, rfl⟩
      go_wp2_with fail
      go_ret
      exact RTurn.no HH.out (Below.refl _ _) HQ.out
    | false =>
      rw [hcl] at c5
      rw [if_neg (by rw [hcl]; decide)] at he
      have e1 : IntKind.i64.wrap (4096 - (l : Int)) = 4096 - (l : Int) := IntWalk.i64_in _ (by omega)
      by_cases h6 : 4096 < l + nb
      · have HQ := Lib.hid (appendM_bad (he.trans (if_pos h6)) (by omega))
        have hd6 : decide ((4096 : Int) - (l : Int) < (nb : Int)) = true := by simp; omega
        clear hcl he
        go_enter Tryz.func29, Tryz.ntmps29
        go_wp2_with fail
        (with_reducible refine HF.out.mono ?_)
        rintro e w1 ⟨rfl, rfl⟩
        go_wp2_with fail
        go_ret
        exact RTurn.no HH.out (Below.refl _ _) HQ.out
      · have hd6 : decide ((4096 : Int) - (l : Int) < (nb : Int)) = false := by simp; omega
        have HQ : Hid (appendM T id bs = (0, amod id (fun x => { x with b := x.b ++ bs }) T)) := by
          show appendM T id bs = _
          unfold appendM
          rw [he, if_neg h6]
          rfl
        clear hcl he
        go_enter Tryz.func29, Tryz.ntmps29
        go_wp2_with fail
        (with_reducible refine HF.out.mono ?_)
        rintro e w1 ⟨rfl, rfl⟩
        go_upto_region 8 with (fail)
        go_cut [] (fun wx => NodesSet w r (.slice aD (List.map (fun q : Int × ItM => q.2.b) T).length cD) (.slice aE (entsM T).length cE) T wx)
        case first =>
          go_wp2_with ((at_builtin; refine wpList_append_rows rfl _ _ 97 rfl w.heap.size 29 _ _ 6 48 Tryz.underlying97 HI6.out.1 HI6.out.2.1 HI6.out.2.2.1 HI6.out.2.2.2 rfl (by omega) _ 0 [] rfl (own_new (MapKept.heap_alloc w _).1 (Nat.le_refl _)) _ n _ (T.flatMap nodeC) rfl (HSR.out.below ((Below.refl _ _).alloc (Nat.le_refl _) _) (Nat.le_refl _)) (nodeC_one _) (by unfold maxLen; omega) (by omega) (by simp) ?_; intro A1 c1' w1 hown1 hb1; have hB1 := ((Below.refl w.heap.size w).alloc (Nat.le_refl _) _).trans hb1; have hf1 : w1.frozen? ⟨r, 0, none⟩ = false := (hB1.frozen (p := ⟨r, 0, none⟩) hrw).trans hf0; have hcc1 := (hB1.cell (p := ⟨r, 0, none⟩) hrw).trans p0))
          go_meet
          obtain ⟨-, hcc, -, hrow2⟩ := own_row (w := w) hown1 (by unfold maxLen; omega) (Nat.le_refl _)
          have hn := HNE.out
          rw [List.nil_append, Nat.zero_add, hn] at hrow2
          rw [Nat.zero_add, hn] at hcc
          have := NodesSet.mk_ hrw HP1.out hB1 hcc hrow2 (own_plain hown1)
          rw [← hn] at this
          exact this
        case rest =>
          obtain ⟨w1, rfl⟩ : ∃ w1 : World, w1 = wc := ⟨_, rfl⟩
          have hnpos : 0 < n := by omega
          have HDN : Hid ((List.map (fun q : Int × ItM => q.2.b) T).length = n) := by
            show _ = _
            rw [List.length_map]; exact HNE.out.symm
          obtain ⟨g, off, c, q0, s1, -, hlc, qf, hgr, hg1, hg2, hr1, gf, d0, d1, d2, d3, d4, d5⟩ := hcut.facts HQX.out
          rw [HDN.out] at s1
          have qf1 := qf 1
          have HV1 : Hid (RowAt (Off (Grow F w w1) r) w1 aD (n * 1) vs) := by
            have := row_old hcut.1 HV.out
            rw [HDN.out] at this
            rw [Nat.mul_one]
            exact this
          have HVO : Hid (∀ u ∈ vs, u.oneCell' = true) := Each.one HEA.out HVL.out
          obtain ⟨i1, a1, b1, u1, t1⟩ := info_parts dataInfo
          have HI1 := Lib.hid (And.intro a1 (And.intro b1 (And.intro u1 t1)))
          have HM := Lib.hid hcut
          clear hcut qf gf hlc q0 d0 d1 d2 d3 d4 d5 hgr hg1 hg2 a1 b1 u1 t1
          go_upto_region 9 with (fail)
          go_cut [] (fun wx => BothSet F w r (.slice aE (entsM T).length cE) T (List.map (fun q : Int × ItM => q.2.b) T) wx)
          case first =>
            go_wp2_with ((at_builtin; refine wpList_append_rows rfl _ _ 80 rfl w1.heap.size 51 _ _ 1 24 Tryz.underlying80 HI1.out.1 HI1.out.2.1 HI1.out.2.2.1 HI1.out.2.2.2 rfl (by omega) _ 0 [] rfl (own_new (MapKept.heap_alloc w1 _).1 (Nat.le_refl _)) _ n _ vs rfl (HV1.out.below ((Below.refl _ _).alloc (Nat.le_refl _) _) (Nat.le_refl _)) HVO.out (by unfold maxLen; omega) (by omega) (by simp) ?_; intro A1 c1' w2 hown1 hb1; have hB1 := ((Below.refl w1.heap.size w1).alloc (Nat.le_refl _) _).trans hb1; have hf1 : w2.frozen? ⟨r, 1, none⟩ = false := (hB1.frozen (p := ⟨r, 1, none⟩) hr1).trans qf1; have hcc1 := (hB1.cell (p := ⟨r, 1, none⟩) hr1).trans s1))
            go_meet
            exact both_mk HM.out (by have := HNE.out; omega) hnpos HDN.out hB1 hown1 (by unfold maxLen; omega) HEA.out HLOW.out
          case rest =>
            obtain ⟨w2, rfl⟩ : ∃ w2 : World, w2 = wc := ⟨_, rfl⟩
            clear s1 qf1
            obtain ⟨gN, oN, cN2, gD, oD, cD2, vs2, hBA⟩ := hcut
            obtain ⟨ax, cx, t0, t1, t2, t3, t4⟩ := hBA.facts (k := k) (d := x.b) (by rw [List.getElem?_map, HQX.out]; rfl)
            rw [HDN.out] at t1
            rw [← HLL.out] at t2 t4
            have hs2 := hBA.keeps.size
            have hr2 : r < w2.heap.size := by omega
            have hgD := hBA.newD.2
            have hfD := hBA.plD.frozen (oD + k)
            have HBA := Lib.hid hBA
            have HXB := Lib.hid t4
            have HB2 : Hid (RowAt S w2 ab nb (bs.map bv)) := HBS.out.kept hs2 fun b hb hbw => hBA.keeps.block b hbw (HSD.out b hb)
            have HKW : Hid (∀ w4, Below w2.heap.size w2 w4 → w4.cell? ⟨r, 1, none⟩ = some (.slice (some ⟨gD, oD, none⟩) n cD2) ∧ w4.cell? ⟨gD, oD + k, none⟩ = some (.slice ax l cx) ∧ w4.frozen? ⟨gD, oD + k, none⟩ = false) := fun w4 hb => ⟨by rw [hb.cell (p := ⟨r, 1, none⟩) hr2]; exact t1, by rw [hb.cell (p := ⟨gD, oD + k, none⟩) hgD]; exact t2, by rw [hb.frozen (p := ⟨gD, oD + k, none⟩) hgD]; exact hfD⟩
            have HXR : Hid (∀ w4, Below w2.heap.size w2 w4 → RowAt (fun b => (F b ∧ b < w.heap.size ∧ b ≠ r) ∨ (w.heap.size ≤ b ∧ b < w2.heap.size ∧ b ≠ gN ∧ b ≠ gD)) w4 ax (l * 1) (x.b.map bv) ∧ RowAt S w4 ab (nb * 1) (bs.map bv)) := fun w4 hb => by
              rw [Nat.mul_one, Nat.mul_one]
              exact ⟨t4.below hb (Nat.le_refl _), HB2.out.below hb (Nat.le_refl _)⟩
            obtain ⟨i8, a8, b8, u8, t8⟩ := info_parts info8a
            have HI8 := Lib.hid (And.intro a8 (And.intro b8 (And.intro u8 t8)))
            clear hBA t0 t3 t4 a8 b8 u8 t8
            go_upto_region 10 with (fail)
            go_cut [] (fun wx => BothSet F w r (.slice aE (entsM T).length cE) T ((List.map (fun q : Int × ItM => q.2.b) T).set k (x.b ++ bs)) wx)
            case first =>
              go_wp2
              refine wp_region_noPanic ?_
              refine wp_region_L (last := 17) (S := (fun w' => w'.cell? ⟨r, 1, none⟩ = some (.slice (some ⟨gD, oD, none⟩) n cD2) ∧ w'.cell? ⟨gD, oD + k, none⟩ = some (.slice ax l cx) ∧ w'.frozen? ⟨gD, oD + k, none⟩ = false)) (by kernel_rfl) ?_ (fun hS => ?_)
              · exact HKW.out _ (Below.refl _ _).drew
              refine wpAnyL_take (i := 0) (oi := ?oi1) (v := ?v1) ?hi1 (by kernel_rfl) (by kernel_rfl) (by kernel_rfl) (by kernel_rfl) (by kernel_rfl) ?hq1 (Or.inl ⟨?hw1, ?hy1⟩) hS ?rest1
              case hi1 => simp only [List.getElem?_toArray, List.getElem?_cons_succ, List.getElem?_cons_zero]; rfl
              case hq1 => exact fun _ _ _ h => h
              case hw1 => rfl
              case hy1 => intro w hSw; (try dsimp only at hSw); go_simp; (try with_reducible rfl)
              try simp only [Act.put, List.setIfInBounds_toArray, List.set_cons_zero, List.set_cons_succ]
              refine wpAnyL_take (i := 1) (oi := ?oi2) (v := ?v2) ?hi2 (by kernel_rfl) (by kernel_rfl) (by kernel_rfl) (by kernel_rfl) (by kernel_rfl) ?hq2 (Or.inl ⟨?hw2, ?hy2⟩) hS ?rest2
              case hi2 => simp only [List.getElem?_toArray, List.getElem?_cons_succ, List.getElem?_cons_zero]; rfl
              case hq2 => exact fun _ _ _ h => h
              case hw2 => rfl
              case hy2 => intro w hSw; (try dsimp only at hSw); go_simp; (try with_reducible rfl)
              try simp only [Act.put, List.setIfInBounds_toArray, List.set_cons_zero, List.set_cons_succ]
              refine wpAnyL_take (i := 2) (oi := ?oi3) (v := ?v3) ?hi3 (by kernel_rfl) (by kernel_rfl) (by kernel_rfl) (by kernel_rfl) (by kernel_rfl) ?hq3 (Or.inl ⟨?hw3, ?hy3⟩) hS ?rest3
              case hi3 => simp only [List.getElem?_toArray, List.getElem?_cons_succ, List.getElem?_cons_zero]; rfl
              case hq3 => exact fun _ _ _ h => h
              case hw3 => rfl
              case hy3 => intro w hSw; (try dsimp only at hSw); go_simp; (try with_reducible rfl)
              try simp only [Act.put, List.setIfInBounds_toArray, List.set_cons_zero, List.set_cons_succ]
              refine wpAnyL_take (i := 3) (oi := ?oi4) (v := ?v4) ?hi4 (by kernel_rfl) (by kernel_rfl) (by kernel_rfl) (by kernel_rfl) (by kernel_rfl) ?hq4 (Or.inl ⟨?hw4, ?hy4⟩) hS ?rest4
              case hi4 => simp only [List.getElem?_toArray, List.getElem?_cons_succ, List.getElem?_cons_zero]; rfl
              case hq4 => exact fun _ _ _ h => h
              case hw4 => rfl
              case hy4 => intro w hSw; (try dsimp only at hSw); go_simp; (try with_reducible rfl)
              try simp only [Act.put, List.setIfInBounds_toArray, List.set_cons_zero, List.set_cons_succ]
              refine wpAnyL_take (i := 4) (oi := ?oi5) (v := ?v5) ?hi5 (by kernel_rfl) (by kernel_rfl) (by kernel_rfl) (by kernel_rfl) (by kernel_rfl) ?hq5 (Or.inl ⟨?hw5, ?hy5⟩) hS ?rest5
              case hi5 => simp only [List.getElem?_toArray, List.getElem?_cons_succ, List.getElem?_cons_zero]; rfl
              case hq5 => exact fun _ _ _ h => h
              case hw5 => rfl
              case hy5 => intro w hSw; (try dsimp only at hSw); go_simp; (try with_reducible rfl)
              try simp only [Act.put, List.setIfInBounds_toArray, List.set_cons_zero, List.set_cons_succ]
              refine wpAnyL_take (i := 6) (oi := ?oi6) (v := ?v6) ?hi6 (by kernel_rfl) (by kernel_rfl) (by kernel_rfl) (by kernel_rfl) (by kernel_rfl) ?hq6 (Or.inl ⟨?hw6, ?hy6⟩) hS ?rest6
              case hi6 => simp only [List.getElem?_toArray, List.getElem?_cons_succ, List.getElem?_cons_zero]; rfl
              case hq6 => exact fun _ _ _ h => h
              case hw6 => rfl
              case hy6 => intro w hSw; (try dsimp only at hSw); go_simp; (try with_reducible rfl)
              try simp only [Act.put, List.setIfInBounds_toArray, List.set_cons_zero, List.set_cons_succ]
              refine wpAnyL_take (i := 7) (oi := ?oi7) (v := ?v7) ?hi7 (by kernel_rfl) (by kernel_rfl) (by kernel_rfl) (by kernel_rfl) (by kernel_rfl) ?hq7 (Or.inl ⟨?hw7, ?hy7⟩) hS ?rest7
              case hi7 => simp only [List.getElem?_toArray, List.getElem?_cons_succ, List.getElem?_cons_zero]; rfl
              case hq7 => exact fun _ _ _ h => h
              case hw7 => rfl
              case hy7 => intro w hSw; (try dsimp only at hSw); go_simp; (try with_reducible rfl)
              try simp only [Act.put, List.setIfInBounds_toArray, List.set_cons_zero, List.set_cons_succ]
              refine wpAnyL_take (i := 8) (oi := ?oi8) (v := ?v8) ?hi8 (by kernel_rfl) (by kernel_rfl) (by kernel_rfl) (by kernel_rfl) (by kernel_rfl) ?hq8 (Or.inl ⟨?hw8, ?hy8⟩) hS ?rest8
              case hi8 => simp only [List.getElem?_toArray, List.getElem?_cons_succ, List.getElem?_cons_zero]; rfl
              case hq8 => exact fun _ _ _ h => h
              case hw8 => rfl
              case hy8 => intro w hSw; (try dsimp only at hSw); go_simp; (try with_reducible rfl)
              try simp only [Act.put, List.setIfInBounds_toArray, List.set_cons_zero, List.set_cons_succ]
              refine wpAnyL_take (i := 9) (oi := ?oi9) (v := ?v9) ?hi9 (by kernel_rfl) (by kernel_rfl) (by kernel_rfl) (by kernel_rfl) (by kernel_rfl) ?hq9 (Or.inl ⟨?hw9, ?hy9⟩) hS ?rest9
              case hi9 => simp only [List.getElem?_toArray, List.getElem?_cons_succ, List.getElem?_cons_zero]; rfl
              case hq9 => exact fun _ _ _ h => h
              case hw9 => rfl
              case hy9 => intro w hSw; (try dsimp only at hSw); go_simp; (try with_reducible rfl)
              try simp only [Act.put, List.setIfInBounds_toArray, List.set_cons_zero, List.set_cons_succ]
              refine wpAnyL_take (i := 10) (oi := ?oi10) (v := ?v10) ?hi10 (by kernel_rfl) (by kernel_rfl) (by kernel_rfl) (by kernel_rfl) (by kernel_rfl) ?hq10 (Or.inl ⟨?hw10, ?hy10⟩) hS ?rest10
              case hi10 => simp only [List.getElem?_toArray, List.getElem?_cons_succ, List.getElem?_cons_zero]; rfl
              case hq10 => exact fun _ _ _ h => h
              case hw10 => rfl
              case hy10 => intro w hSw; (try dsimp only at hSw); go_simp; (try with_reducible rfl)
              try simp only [Act.put, List.setIfInBounds_toArray, List.set_cons_zero, List.set_cons_succ]
              refine wpAnyL_take (i := 11) (oi := ?oi11) (v := ?v11) ?hi11 (by kernel_rfl) (by kernel_rfl) (by kernel_rfl) (by kernel_rfl) (by kernel_rfl) ?hq11 (Or.inl ⟨?hw11, ?hy11⟩) hS ?rest11
              case hi11 => simp only [List.getElem?_toArray, List.getElem?_cons_succ, List.getElem?_cons_zero]; rfl
              case hq11 => exact fun _ _ _ h => h
              case hw11 => rfl
              case hy11 => intro w hSw; (try dsimp only at hSw); go_simp; (try with_reducible rfl)
              try simp only [Act.put, List.setIfInBounds_toArray, List.set_cons_zero, List.set_cons_succ]
              refine wpAnyL_take (i := 12) (oi := ?oi12) (v := ?v12) ?hi12 (by kernel_rfl) (by kernel_rfl) (by kernel_rfl) (by kernel_rfl) (by kernel_rfl) ?hq12 (Or.inl ⟨?hw12, ?hy12⟩) hS ?rest12
              case hi12 => simp only [List.getElem?_toArray, List.getElem?_cons_succ, List.getElem?_cons_zero]; rfl
              case hq12 => exact fun _ _ _ h => h
              case hw12 => rfl
              case hy12 => intro w hSw; (try dsimp only at hSw); go_simp; (try with_reducible rfl)
              try simp only [Act.put, List.setIfInBounds_toArray, List.set_cons_zero, List.set_cons_succ]
              refine wpAnyL_take (i := 14) (oi := ?oi13) (v := ?v13) ?hi13 (by kernel_rfl) (by kernel_rfl) (by kernel_rfl) (by kernel_rfl) (by kernel_rfl) ?hq13 (Or.inl ⟨?hw13, ?hy13⟩) hS ?rest13
              case hi13 => simp only [List.getElem?_toArray, List.getElem?_cons_succ, List.getElem?_cons_zero]; rfl
              case hq13 => exact fun _ _ _ h => h
              case hw13 => rfl
              case hy13 => intro w hSw; (try dsimp only at hSw); go_simp; (try with_reducible rfl)
              try simp only [Act.put, List.setIfInBounds_toArray, List.set_cons_zero, List.set_cons_succ]
              refine wpAnyL_ready (rs := [5]) (by kernel_rfl) (by simp) ?_
              refine AllReadyL.cons (o := ?o14) ?ho14 (fun K hK => ?_) AllReadyL.nil
              case ho14 => simp only [List.getElem?_toArray, List.getElem?_cons_succ, List.getElem?_cons_zero]; rfl
              go_simp
              refine hK.out _ _ (fun _ => HKW.out _ ((Below.refl _ _).drew.alloc (Nat.le_refl _) _)) (fun hS => ?_)
              replace hS := hS (by decide)
              clear hK K
              try simp only [Act.put, List.setIfInBounds_toArray, List.set_cons_zero, List.set_cons_succ]
              refine wpAnyL_ready (rs := [13]) (by kernel_rfl) (by simp) ?_
              refine AllReadyL.cons (o := ?o15) ?ho15 (fun K hK => ?_) AllReadyL.nil
              case ho15 => simp only [List.getElem?_toArray, List.getElem?_cons_succ, List.getElem?_cons_zero]; rfl
              refine step_append_rows (by rfl) (.tmp 61) (.tmp 68) 51 (by rfl) w2.heap.size 5 _ _ 1 1 Tryz.underlying51 HI8.out.1 HI8.out.2.1 HI8.out.2.2.1 HI8.out.2.2.2 rfl (by omega) _ 0 [] (by rfl) (own_new (MapKept.heap_alloc w2.drew _).1 (Nat.le_refl _)) _ l _ (x.b.map bv) (by rfl) (HXR.out _ ((Below.refl _ _).drew.alloc (Nat.le_refl _) _)).1 (bytes_one _) (by unfold maxLen; omega) (by omega) (by simp <;> omega) ?_
              intro A1 c1z u1 hown1 hb1
              have hB1 : Below w2.heap.size w2 u1 := ((Below.refl _ _).drew.alloc (Nat.le_refl _) _).trans hb1
              refine hK.out _ _ (fun _ => HKW.out _ hB1) (fun hS => ?_)
              replace hS := hS (by decide)
              clear hK K
              try simp only [Act.put, List.setIfInBounds_toArray, List.set_cons_zero, List.set_cons_succ]
              refine wpAnyL_ready (rs := [15]) (by kernel_rfl) (by simp) ?_
              refine AllReadyL.cons (o := ?o16) ?ho16 (fun K hK => ?_) AllReadyL.nil
              case ho16 => simp only [List.getElem?_toArray, List.getElem?_cons_succ, List.getElem?_cons_zero]; rfl
              refine step_append_rows (by rfl) (.tmp 69) (.tmp 70) 51 (by rfl) w2.heap.size 5 _ _ 1 1 Tryz.underlying51 HI8.out.1 HI8.out.2.1 HI8.out.2.2.1 HI8.out.2.2.2 rfl (by omega) _ _ _ (by rfl) hown1 _ nb _ (bs.map bv) (by rfl) (HXR.out _ hB1).2 (bytes_one _) (by unfold maxLen; omega) (by omega) hB1.size ?_
              intro A2 c2z u2 hown2 hb2
              have hB2 : Below w2.heap.size w2 u2 := hB1.trans hb2
              refine hK.out _ _ (fun _ => HKW.out _ hB2) (fun hS => ?_)
              replace hS := hS (by decide)
              clear hK K
              try simp only [Act.put, List.setIfInBounds_toArray, List.set_cons_zero, List.set_cons_succ]
              refine wpAnyL_take (i := 16) (oi := ?oi17) (v := ?v17) ?hi17 (by kernel_rfl) (by kernel_rfl) (by kernel_rfl) (by kernel_rfl) (by kernel_rfl) ?hq17 (Or.inl ⟨?hw17, ?hy17⟩) hS ?rest17
              case hi17 => simp only [List.getElem?_toArray, List.getElem?_cons_succ, List.getElem?_cons_zero]; rfl
              case hq17 => exact fun _ _ _ h => h
              case hw17 => rfl
              case hy17 => intro w hSw; (try dsimp only at hSw); go_simp; (try with_reducible rfl)
              try simp only [Act.put, List.setIfInBounds_toArray, List.set_cons_zero, List.set_cons_succ]
              refine wpAnyL_ready (rs := [17]) (by kernel_rfl) (by simp) ?_
              refine AllReadyL.cons (o := ?o18) ?ho18 (fun K hK => ?_) AllReadyL.nil
              case ho18 => simp only [List.getElem?_toArray, List.getElem?_cons_succ, List.getElem?_cons_zero]; rfl
              go_simp
              refine hK.out _ _ (fun h => absurd rfl h) (fun hS => ?_)
              clear hS hK K
              try simp only [Act.put, List.setIfInBounds_toArray, List.set_cons_zero, List.set_cons_succ]
              refine wpAnyL_done (by kernel_rfl) ?_ _
              refine NoPanic.normal ?_
              go_wp2_with fail
              go_meet
              exact both_data HBA.out (by have := HDN.out; omega) hB2 hown2 ⟨by simp, by rw [List.length_append, HBL.out, ← HLL.out]; omega, by omega⟩ (by unfold maxLen; omega)
            case rest =>
              obtain ⟨w3, rfl⟩ : ∃ w3 : World, w3 = wc := ⟨_, rfl⟩
              clear t1 t2 hfD hgD hr2
              obtain ⟨gN, oN, cN3, gD, oD, cD3, vs3, hBB⟩ := hcut
              obtain ⟨ay, cy, t0, t1, t2, -, -⟩ := hBB.facts (k := k) (d := x.b ++ bs) (List.getElem?_set_self (by have := HDN.out; omega))
              rw [← HNE.out] at t0
              rw [List.length_set, HDN.out] at t1
              rw [List.length_append, HBL.out, ← HLL.out] at t2
              obtain ⟨b', o', e', -, -, -, hcN⟩ := hBB.rowN.wide nodeC_len rfl HQX.out (by omega)
              simp only [Option.some.injEq, Addr.mk.injEq, and_true] at e'
              obtain ⟨rfl, rfl⟩ := e'
              have t3 : w3.cell? ⟨gN, oN + k * 6 + 3, none⟩ = some (.int .i64 (x.b.length : Nat)) := hcN 3 (by omega)
              have t4 := hBB.plN.frozen (oN + k * 6 + 3)
              have HBB := Lib.hid hBB
              have HT0 := Lib.hid t0
              clear hBB hcN
              go_wp2
              refine wp_region_noPanic ?_
              refine wp_region_L (last := 15) (S := (fun w' => w'.cell? ⟨r, 0, none⟩ = some (.slice (some ⟨gN, oN, none⟩) n cN3) ∧ w'.cell? ⟨r, 1, none⟩ = some (.slice (some ⟨gD, oD, none⟩) n cD3) ∧ w'.cell? ⟨gD, oD + k, none⟩ = some (.slice ay (l + nb) cy) ∧ w'.cell? ⟨gN, oN + k * 6 + 3, none⟩ = some (.int .i64 (x.b.length : Nat)) ∧ w'.frozen? ⟨gN, oN + k * 6 + 3, none⟩ = false)) (by kernel_rfl) ?_ (fun hS => ?_)
              · exact ⟨t0, t1, t2, t3, t4⟩
              refine wpAnyL_take (i := 0) (oi := ?oi19) (v := ?v19) ?hi19 (by kernel_rfl) (by kernel_rfl) (by kernel_rfl) (by kernel_rfl) (by kernel_rfl) ?hq19 (Or.inl ⟨?hw19, ?hy19⟩) hS ?rest19
              case hi19 => simp only [List.getElem?_toArray, List.getElem?_cons_succ, List.getElem?_cons_zero]; rfl
              case hq19 => exact fun _ _ _ h => h
              case hw19 => rfl
              case hy19 => intro w hSw; (try dsimp only at hSw); go_simp; (try with_reducible rfl)
              try simp only [Act.put, List.setIfInBounds_toArray, List.set_cons_zero, List.set_cons_succ]
              refine wpAnyL_take (i := 1) (oi := ?oi20) (v := ?v20) ?hi20 (by kernel_rfl) (by kernel_rfl) (by kernel_rfl) (by kernel_rfl) (by kernel_rfl) ?hq20 (Or.inl ⟨?hw20, ?hy20⟩) hS ?rest20
              case hi20 => simp only [List.getElem?_toArray, List.getElem?_cons_succ, List.getElem?_cons_zero]; rfl
              case hq20 => exact fun _ _ _ h => h
              case hw20 => rfl
              case hy20 => intro w hSw; (try dsimp only at hSw); go_simp; (try with_reducible rfl)
              try simp only [Act.put, List.setIfInBounds_toArray, List.set_cons_zero, List.set_cons_succ]
              refine wpAnyL_take (i := 2) (oi := ?oi21) (v := ?v21) ?hi21 (by kernel_rfl) (by kernel_rfl) (by kernel_rfl) (by kernel_rfl) (by kernel_rfl) ?hq21 (Or.inl ⟨?hw21, ?hy21⟩) hS ?rest21
              case hi21 => simp only [List.getElem?_toArray, List.getElem?_cons_succ, List.getElem?_cons_zero]; rfl
              case hq21 => exact fun _ _ _ h => h
              case hw21 => rfl
              case hy21 => intro w hSw; (try dsimp only at hSw); go_simp; (try with_reducible rfl)
              try simp only [Act.put, List.setIfInBounds_toArray, List.set_cons_zero, List.set_cons_succ]
              refine wpAnyL_take (i := 3) (oi := ?oi22) (v := ?v22) ?hi22 (by kernel_rfl) (by kernel_rfl) (by kernel_rfl) (by kernel_rfl) (by kernel_rfl) ?hq22 (Or.inl ⟨?hw22, ?hy22⟩) hS ?rest22
              case hi22 => simp only [List.getElem?_toArray, List.getElem?_cons_succ, List.getElem?_cons_zero]; rfl
              case hq22 => exact fun _ _ _ h => h
              case hw22 => rfl
              case hy22 => intro w hSw; (try dsimp only at hSw); go_simp; (try with_reducible rfl)
              try simp only [Act.put, List.setIfInBounds_toArray, List.set_cons_zero, List.set_cons_succ]
              refine wpAnyL_take (i := 4) (oi := ?oi23) (v := ?v23) ?hi23 (by kernel_rfl) (by kernel_rfl) (by kernel_rfl) (by kernel_rfl) (by kernel_rfl) ?hq23 (Or.inl ⟨?hw23, ?hy23⟩) hS ?rest23
              case hi23 => simp only [List.getElem?_toArray, List.getElem?_cons_succ, List.getElem?_cons_zero]; rfl
              case hq23 => exact fun _ _ _ h => h
              case hw23 => rfl
              case hy23 => intro w hSw; (try dsimp only at hSw); go_simp; (try with_reducible rfl)
              try simp only [Act.put, List.setIfInBounds_toArray, List.set_cons_zero, List.set_cons_succ]
              refine wpAnyL_take (i := 5) (oi := ?oi24) (v := ?v24) ?hi24 (by kernel_rfl) (by kernel_rfl) (by kernel_rfl) (by kernel_rfl) (by kernel_rfl) ?hq24 (Or.inl ⟨?hw24, ?hy24⟩) hS ?rest24
              case hi24 => simp only [List.getElem?_toArray, List.getElem?_cons_succ, List.getElem?_cons_zero]; rfl
              case hq24 => exact fun _ _ _ h => h
              case hw24 => rfl
              case hy24 => intro w hSw; (try dsimp only at hSw); go_simp; (try with_reducible rfl)
              try simp only [Act.put, List.setIfInBounds_toArray, List.set_cons_zero, List.set_cons_succ]
              refine wpAnyL_take (i := 6) (oi := ?oi25) (v := ?v25) ?hi25 (by kernel_rfl) (by kernel_rfl) (by kernel_rfl) (by kernel_rfl) (by kernel_rfl) ?hq25 (Or.inl ⟨?hw25, ?hy25⟩) hS ?rest25
              case hi25 => simp only [List.getElem?_toArray, List.getElem?_cons_succ, List.getElem?_cons_zero]; rfl
              case hq25 => exact fun _ _ _ h => h
              case hw25 => rfl
              case hy25 => intro w hSw; (try dsimp only at hSw); go_simp; (try with_reducible rfl)
              try simp only [Act.put, List.setIfInBounds_toArray, List.set_cons_zero, List.set_cons_succ]
              refine wpAnyL_take (i := 7) (oi := ?oi26) (v := ?v26) ?hi26 (by kernel_rfl) (by kernel_rfl) (by kernel_rfl) (by kernel_rfl) (by kernel_rfl) ?hq26 (Or.inl ⟨?hw26, ?hy26⟩) hS ?rest26
              case hi26 => simp only [List.getElem?_toArray, List.getElem?_cons_succ, List.getElem?_cons_zero]; rfl
              case hq26 => exact fun _ _ _ h => h
              case hw26 => rfl
              case hy26 => intro w hSw; (try dsimp only at hSw); go_simp; (try with_reducible rfl)
              try simp only [Act.put, List.setIfInBounds_toArray, List.set_cons_zero, List.set_cons_succ]
              refine wpAnyL_take (i := 8) (oi := ?oi27) (v := ?v27) ?hi27 (by kernel_rfl) (by kernel_rfl) (by kernel_rfl) (by kernel_rfl) (by kernel_rfl) ?hq27 (Or.inl ⟨?hw27, ?hy27⟩) hS ?rest27
              case hi27 => simp only [List.getElem?_toArray, List.getElem?_cons_succ, List.getElem?_cons_zero]; rfl
              case hq27 => exact fun _ _ _ h => h
              case hw27 => rfl
              case hy27 => intro w hSw; (try dsimp only at hSw); go_simp; (try with_reducible rfl)
              try simp only [Act.put, List.setIfInBounds_toArray, List.set_cons_zero, List.set_cons_succ]
              refine wpAnyL_take (i := 9) (oi := ?oi28) (v := ?v28) ?hi28 (by kernel_rfl) (by kernel_rfl) (by kernel_rfl) (by kernel_rfl) (by kernel_rfl) ?hq28 (Or.inl ⟨?hw28, ?hy28⟩) hS ?rest28
              case hi28 => simp only [List.getElem?_toArray, List.getElem?_cons_succ, List.getElem?_cons_zero]; rfl
              case hq28 => exact fun _ _ _ h => h
              case hw28 => rfl
              case hy28 => intro w hSw; (try dsimp only at hSw); go_simp; (try with_reducible rfl)
              try simp only [Act.put, List.setIfInBounds_toArray, List.set_cons_zero, List.set_cons_succ]
              refine wpAnyL_take (i := 10) (oi := ?oi29) (v := ?v29) ?hi29 (by kernel_rfl) (by kernel_rfl) (by kernel_rfl) (by kernel_rfl) (by kernel_rfl) ?hq29 (Or.inl ⟨?hw29, ?hy29⟩) hS ?rest29
              case hi29 => simp only [List.getElem?_toArray, List.getElem?_cons_succ, List.getElem?_cons_zero]; rfl
              case hq29 => exact fun _ _ _ h => h
              case hw29 => rfl
              case hy29 => intro w hSw; (try dsimp only at hSw); go_simp; (try with_reducible rfl)
              try simp only [Act.put, List.setIfInBounds_toArray, List.set_cons_zero, List.set_cons_succ]
              refine wpAnyL_take (i := 11) (oi := ?oi30) (v := ?v30) ?hi30 (by kernel_rfl) (by kernel_rfl) (by kernel_rfl) (by kernel_rfl) (by kernel_rfl) ?hq30 (Or.inl ⟨?hw30, ?hy30⟩) hS ?rest30
              case hi30 => simp only [List.getElem?_toArray, List.getElem?_cons_succ, List.getElem?_cons_zero]; rfl
              case hq30 => exact fun _ _ _ h => h
              case hw30 => rfl
              case hy30 => intro w hSw; (try dsimp only at hSw); go_simp; (try with_reducible rfl)
              try simp only [Act.put, List.setIfInBounds_toArray, List.set_cons_zero, List.set_cons_succ]
              refine wpAnyL_take (i := 12) (oi := ?oi31) (v := ?v31) ?hi31 (by kernel_rfl) (by kernel_rfl) (by kernel_rfl) (by kernel_rfl) (by kernel_rfl) ?hq31 (Or.inl ⟨?hw31, ?hy31⟩) hS ?rest31
              case hi31 => simp only [List.getElem?_toArray, List.getElem?_cons_succ, List.getElem?_cons_zero]; rfl
              case hq31 => exact fun _ _ _ h => h
              case hw31 => rfl
              case hy31 => intro w hSw; (try dsimp only at hSw); go_simp; (try with_reducible rfl)
              try simp only [Act.put, List.setIfInBounds_toArray, List.set_cons_zero, List.set_cons_succ]
              refine wpAnyL_take (i := 13) (oi := ?oi32) (v := ?v32) ?hi32 (by kernel_rfl) (by kernel_rfl) (by kernel_rfl) (by kernel_rfl) (by kernel_rfl) ?hq32 (Or.inl ⟨?hw32, ?hy32⟩) hS ?rest32
              case hi32 => simp only [List.getElem?_toArray, List.getElem?_cons_succ, List.getElem?_cons_zero]; rfl
              case hq32 => exact fun _ _ _ h => h
              case hw32 => rfl
              case hy32 => intro w hSw; (try dsimp only at hSw); go_simp; (try with_reducible rfl)
              try simp only [Act.put, List.setIfInBounds_toArray, List.set_cons_zero, List.set_cons_succ]
              refine wpAnyL_take (i := 14) (oi := ?oi33) (v := ?v33) ?hi33 (by kernel_rfl) (by kernel_rfl) (by kernel_rfl) (by kernel_rfl) (by kernel_rfl) ?hq33 (Or.inl ⟨?hw33, ?hy33⟩) hS ?rest33
              case hi33 => simp only [List.getElem?_toArray, List.getElem?_cons_succ, List.getElem?_cons_zero]; rfl
              case hq33 => exact fun _ _ _ h => h
              case hw33 => rfl
              case hy33 => intro w hSw; (try dsimp only at hSw); go_simp; (try with_reducible rfl)
              try simp only [Act.put, List.setIfInBounds_toArray, List.set_cons_zero, List.set_cons_succ]
              refine wpAnyL_ready (rs := [15]) (by kernel_rfl) (by simp) ?_
              refine AllReadyL.cons (o := ?o34) ?ho34 (fun K hK => ?_) AllReadyL.nil
              case ho34 => simp only [List.getElem?_toArray, List.getElem?_cons_succ, List.getElem?_cons_zero]; rfl
              go_simp
              refine hK.out _ _ (fun h => absurd rfl h) (fun hS => ?_)
              clear hS hK K
              try simp only [Act.put, List.setIfInBounds_toArray, List.set_cons_zero, List.set_cons_succ]
              refine wpAnyL_done (by kernel_rfl) ?_ _
              refine NoPanic.normal ?_
              go_wp2_with fail
              go_ret
              rw [HQ.out]
              have h7 := both_end HH.out HP1.out HBB.out HQX.out (q' := (id, { x with b := x.b ++ bs })) (v3 := .int .i64 ((l + nb : Nat) : Int)) (by
                show _ = _
                have e9 : (x.b ++ bs).length = l + nb := by rw [List.length_append, HBL.out, ← HLL.out]
                unfold nodeC
                simp only [e9]
                rfl) (.int .i64 0)
              rw [← Nat.add_assoc] at h7
              have h8 := amod_at (f := fun x : ItM => { x with b := x.b ++ bs }) HS.out HQX.out
              have h9 := data_set (f := fun x : ItM => { x with b := x.b ++ bs }) HS.out HQX.out
              simp only at h8 h9
              rw [h8, ← h9] at h7
              have h10 := h7.then_ HH.out.low (Below.refl _ _).drew
              refine ⟨h10.1, h10.2.1, ?_⟩
              rw [ents_amod (fun _ => by exact rfl)]
              exact h10.2.2
  · have HQ := Lib.hid (appendM_bad (T := T) (id := id) (bs := bs) (v := fileE T id) (by
      unfold appendE fileE at *
      cases hx : aget id T with
      | none => rfl
      | some x =>
        rw [hx] at h0
        by_cases hk : x.kind = 2
        · simp [hk]
        · exact absurd (by simp [hk]) h0) h0)
    generalize fileE T id = f at *
    have hne : (f == 0) = false := by simpa using h0
    have hne2 : (f != 0) = true := by simpa using h0
    clear h hT h0 hbs hbl hSr
    go_enter Tryz.func29, Tryz.ntmps29
    go_wp2_with fail
    (with_reducible refine HF.out.mono ?_)
    rintro e w1 ⟨rfl, rfl⟩
    go_wp2_with fail
    go_ret
    exact RTurn.no HH.out (Below.refl _ _) HQ.out
end
end Go.Proofs.YtbapdoicejakhaaGreat
