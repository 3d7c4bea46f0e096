/- The reference: Link. The reference: List. -/
import Derived.Test.YtbapdoicejakhaaGreatM33
namespace Go.Proofs.YtbapdoicejakhaaGreat
open Go.ChangeShapes Go.WideShapes Go.ChangeAt Go.RowKit
set_option linter.unusedVariables false
set_option linter.unusedSimpArgs false

theorem linkM_bad {T : TrM} {p q : List Nm} {v : Int} (h : linkE T p q = v) (hv : v ≠ 0) : linkM T p q = (v, T) := by
  unfold linkM
  rw [h, if_neg hv]
theorem linkM_good {T : TrM} {p q : List Nm} (h : linkE T p q = 0) : linkM T p q = (0, linkOk T p q) := by
  unfold linkM
  rw [h, if_pos rfl]
theorem cell_new (w : World) (cs : Array Value) (t : TypeId) (j : Nat) : (w.alloc (.cells cs t)).cell? ⟨w.heap.size, j, none⟩ = cs[j]? := by
  have := (MapKept.heap_alloc w (.cells cs t)).1
  unfold World.cell?
  simp only [this]
  rfl
section
variable {F : Nat → Prop} {r : Nat} {T : TrM}
/-- Nothing is turned. -/
theorem RTurn.no {w w' : World} {v : Int} (h : RefAt F w r T) (hb : Below w.heap.size w w') {q : Int × TrM} (hq : q = (v, T)) : RTurn F w r q.2 (.int .i64 q.1) (.returned (.int .i64 v)) w' := by
  rw [hq]
  exact RTurnP.same h hb
set_option maxRecDepth 100000 in
set_option maxHeartbeats 8000000 in
theorem rlink_any {S S' : Nat → Prop} (a : Option Addr) (n c : Nat) (ls : List Nm) (a' : Option Addr) (n' c' : Nat) (ls' : List Nm) (w : World) (h : RefAt F w r T) (hT : OkM T) (hS : StrsAt S w a n (ls.map strOf)) (hS' : StrsAt S' w a' n' (ls'.map strOf)) (hc' : n' ≤ c') (hn8' : n' ≤ 1000000) :
    Calls Tryz.prog 25 #[ptr r, .slice a n c, .slice a' n' c'] w (RTurn F w r (linkM T ls ls').2 (.int .i64 (linkM T ls ls').1)) := by
  have hE : (entsM T).length ≤ 1000000 := by have := ents_few hT; omega
  have H1 := Lib.hid (rrights_any a n c ls a' n' c' ls' w hS hS')
  have H2 := Lib.hid (fun w1 (hb : Below w.heap.size w w1) => rlook_any a n c ls w1 (h.below hb (Nat.le_refl _)) hT hE (hS.below hb (Nat.le_refl _)))
  have H3 := Lib.hid (fun w1 (hb : Below w.heap.size w w1) => rplace_any a' n' c' ls' w1 (h.below hb (Nat.le_refl _)) hT hE (hS'.below hb (Nat.le_refl _)) hc' hn8')
  have H4 := Lib.hid (fun w1 (hb : Below w.heap.size w w1) id => rnode_any id w1 (h.below hb (Nat.le_refl _)) hT.toOkP)
  have H5 := Lib.hid (fun w1 (hb : Below w.heap.size w w1) d nm => rentry_any d nm w1 (h.below hb (Nat.le_refl _)) hE)
  have HH := Lib.hid h
  have HT := Lib.hid hT
  have HB := Lib.hid (fun (v : Int) (hv : v ≠ 0) (he : linkE T ls ls' = v) => linkM_bad he hv)
  have HG := Lib.hid (linkM_good (T := T) (p := ls) (q := ls'))
  have hr0 := h.low r h.own
  unfold linkE at HB HG
  have HLT := Lib.hid (lookM_there hT ls 0 (root_there hT))
  have HPS := Lib.hid (placeM_spec (p := ls') hT)
  unfold linkOk at HG
  generalize fine2 ls ls' = f0 at H1 HB HG
  generalize lookM T 0 ls = lk at H2 HB HG HLT
  generalize placeM T ls' = pl at H3 HB HG HPS
  obtain ⟨id, e1⟩ := lk
  obtain ⟨d2, n2, e2⟩ := pl
  simp only at H2 H3 HB HG HLT HPS
  generalize linkM T ls ls' = res at HB HG ⊢
  clear h hT hS hS' hE
  by_cases h0 : f0 = 0
  · subst h0
    by_cases h1 : e1 = 0
    · subst h1
      obtain ⟨y, hy⟩ := Option.isSome_iff_exists.1 (HLT.out rfl)
      have H4y := Lib.hid (fun w1 hb => H4.out w1 hb id)
      have hnd : nodeM T id = nodeV id y := by unfold nodeM; rw [hy]
      rw [hnd] at H4y
      unfold nodeV at H4y
      have hky : kindM T id = y.kind := kindM_of hy
      have hly : linksM T id = y.links := by unfold linksM; rw [hy]
      rw [hky, hly] at HB
      rw [hky, hly] at HG
      have HY := Lib.hid hy
      have hlk := (HT.out.each id y hy).links
      clear hnd hky hly hy H4
      by_cases h2 : y.kind = 2
      · have hk1 : (y.kind == 2) = true := by simpa using h2
        have HQ := Lib.hid (HB.out 22 (by omega) (by rw [if_neg (by simp), if_neg (by simp), if_pos h2]))
        clear h2
        go_enter Tryz.func25, Tryz.ntmps25
        go_wp2_with fail
        (with_reducible refine H1.out.mono ?_)
        rintro e w1 ⟨rfl, hb1⟩
        have HB1 := Lib.hid hb1
        clear hb1
        go_wp2_with fail
        (with_reducible refine (H2.out w1 HB1.out).mono ?_)
        rintro e w2 ⟨rfl, hb2⟩
        have HB2 := Lib.hid (HB1.out.trans (hb2.mono HB1.out.size))
        clear hb2
        go_wp2_with fail
        (with_reducible refine (H4y.out w2 HB2.out).mono ?_)
        rintro e w3 ⟨rfl, hb3⟩
        have HB3 := Lib.hid (HB2.out.trans (hb3.mono HB2.out.size))
        have hz3 := HB3.out.size
        clear hb3
        go_wp2_with fail
        go_ret
        exact RTurn.no HH.out (HB3.out.trans ((wall w3 _).mono HB3.out.size)) HQ.out
      · have hk1 : (y.kind == 2) = false := by simpa using h2
        by_cases h3 : e2 = 0
        · subst h3
          obtain ⟨x, hx, hxk, hxm⟩ := HPS.out rfl
          have hnm : namesM T d2 = x.names := namesM_of hx
          rw [hnm] at HB
          rw [hnm] at HG
          have H5e := Lib.hid (fun w1 hb => H5.out w1 hb d2 n2)
          cases hn : aget n2 x.names with
          | some j =>
            obtain ⟨m, hm1, hm2⟩ := ent_some HT.out.toOkP hx hn
            rw [hm1] at H5e
            have m0 : ¬ (m : Int) < 0 := by omega
            have m1 : (0 : Int) ≤ m := by omega
            have HQ := Lib.hid (HB.out 21 (by omega) (by rw [if_neg (by simp), if_neg (by simp), if_neg h2, if_neg (by simp), hn]; rfl))
            clear h2 hn hx hxk hxm hnm hm1 hm2
            go_enter Tryz.func25, Tryz.ntmps25
            go_wp2_with fail
            (with_reducible refine H1.out.mono ?_)
            rintro e w1 ⟨rfl, hb1⟩
            have HB1 := Lib.hid hb1
            clear hb1
            go_wp2_with fail
            (with_reducible refine (H2.out w1 HB1.out).mono ?_)
            rintro e w2 ⟨rfl, hb2⟩
            have HB2 := Lib.hid (HB1.out.trans (hb2.mono HB1.out.size))
            clear hb2
            go_wp2_with fail
            (with_reducible refine (H4y.out w2 HB2.out).mono ?_)
            rintro e w3 ⟨rfl, hb3⟩
            have HB3 := Lib.hid (HB2.out.trans (hb3.mono HB2.out.size))
            have hz3 := HB3.out.size
            clear hb3
            go_wp2_with fail
            (with_reducible refine (H3.out _ (HB3.out.trans ((wall w3 _).mono HB3.out.size))).mono ?_)
            rintro e w4 ⟨rfl, hb4⟩
            have HB4 := Lib.hid ((HB3.out.trans ((wall w3 _).mono HB3.out.size)).trans (hb4.mono (by simp; omega)))
            have q4 : w4.cell? ⟨w3.heap.size, 2, none⟩ = some (.int .i64 y.links) := by rw [hb4.cell (p := ⟨w3.heap.size, 2, none⟩) (by simp)]; exact cell_new w3 _ _ 2
            have hz4 : w3.heap.size < w4.heap.size := by have := hb4.size; simp at this; omega
            clear hb4
            go_wp2_with fail
            (with_reducible refine (H5e.out w4 HB4.out).mono ?_)
            rintro e w5 ⟨rfl, rfl⟩
            go_wp2_with fail
            go_ret
            exact RTurn.no HH.out HB4.out HQ.out
          | none =>
            rw [ent_none HT.out.sorted hx hn] at H5e
            by_cases h4 : 64 ≤ y.links
            · have HQ := Lib.hid (HB.out 4 (by omega) (by rw [if_neg (by simp), if_neg (by simp), if_neg h2, if_neg (by simp), hn, if_neg (by simp), if_pos h4]))
              have hd4 : decide ((64 : Int) ≤ y.links) = true := by simpa using h4
              clear h2 hn hx hxk hxm hnm
              go_enter Tryz.func25, Tryz.ntmps25
              go_wp2_with fail
              (with_reducible refine H1.out.mono ?_)
              rintro e w1 ⟨rfl, hb1⟩
              have HB1 := Lib.hid hb1
              clear hb1
              go_wp2_with fail
              (with_reducible refine (H2.out w1 HB1.out).mono ?_)
              rintro e w2 ⟨rfl, hb2⟩
              have HB2 := Lib.hid (HB1.out.trans (hb2.mono HB1.out.size))
              clear hb2
              go_wp2_with fail
              (with_reducible refine (H4y.out w2 HB2.out).mono ?_)
              rintro e w3 ⟨rfl, hb3⟩
              have HB3 := Lib.hid (HB2.out.trans (hb3.mono HB2.out.size))
              have hz3 := HB3.out.size
              clear hb3
              go_wp2_with fail
              (with_reducible refine (H3.out _ (HB3.out.trans ((wall w3 _).mono HB3.out.size))).mono ?_)
              rintro e w4 ⟨rfl, hb4⟩
              have HB4 := Lib.hid ((HB3.out.trans ((wall w3 _).mono HB3.out.size)).trans (hb4.mono (by simp; omega)))
              have q4 : w4.cell? ⟨w3.heap.size, 2, none⟩ = some (.int .i64 y.links) := by rw [hb4.cell (p := ⟨w3.heap.size, 2, none⟩) (by simp)]; exact cell_new w3 _ _ 2
              have hz4 : w3.heap.size < w4.heap.size := by have := hb4.size; simp at this; omega
              clear hb4
              go_wp2_with fail
              (with_reducible refine (H5e.out w4 HB4.out).mono ?_)
              rintro e w5 ⟨rfl, rfl⟩
              go_wp2_with fail
              go_ret
              exact RTurn.no HH.out HB4.out HQ.out
            · have HQ := Lib.hid (HG.out (by rw [if_neg (by simp), if_neg (by simp), if_neg h2, if_neg (by simp), hn, if_neg (by simp), if_neg h4]))
              have hd4 : decide ((64 : Int) ≤ y.links) = false := by simpa using h4
              have hid : id ≠ d2 := fun e => by have := HY.out; rw [e, hx] at this; cases this; exact h2 hxk
              have HL := Lib.hid (Lax.of HT.out)
              have HAD := Lib.hid (fun w4 (hb : Below w.heap.size w w4) => radd_tr d2 n2 id x w4 (HH.out.below hb (Nat.le_refl _)) HL.out hx hn)
              have HY1 : Hid (aget id (setName T d2 n2 id) = some y) := by
                show aget id (setName T d2 n2 id) = some y
                unfold setName
                rw [aget_amod, if_neg hid]
                exact HY.out
              have HL1 : Hid (Lax (setName T d2 n2 id)) := HL.out.put hx hn (ents_few HT.out) id
              clear h2 hn hx hxk hxm hnm h4 hid
              go_enter Tryz.func25, Tryz.ntmps25
              go_wp2_with fail
              (with_reducible refine H1.out.mono ?_)
              rintro e w1 ⟨rfl, hb1⟩
              have HB1 := Lib.hid hb1
              clear hb1
              go_wp2_with fail
              (with_reducible refine (H2.out w1 HB1.out).mono ?_)
              rintro e w2 ⟨rfl, hb2⟩
              have HB2 := Lib.hid (HB1.out.trans (hb2.mono HB1.out.size))
              clear hb2
              go_wp2_with fail
              (with_reducible refine (H4y.out w2 HB2.out).mono ?_)
              rintro e w3 ⟨rfl, hb3⟩
              have HB3 := Lib.hid (HB2.out.trans (hb3.mono HB2.out.size))
              have hz3 := HB3.out.size
              clear hb3
              go_wp2_with fail
              (with_reducible refine (H3.out _ (HB3.out.trans ((wall w3 _).mono HB3.out.size))).mono ?_)
              rintro e w4 ⟨rfl, hb4⟩
              have HB4 := Lib.hid ((HB3.out.trans ((wall w3 _).mono HB3.out.size)).trans (hb4.mono (by simp; omega)))
              have q4 : w4.cell? ⟨w3.heap.size, 2, none⟩ = some (.int .i64 y.links) := by rw [hb4.cell (p := ⟨w3.heap.size, 2, none⟩) (by simp)]; exact cell_new w3 _ _ 2
              have hz4 : w3.heap.size < w4.heap.size := by have := hb4.size; simp at this; omega
              clear hb4
              go_wp2_with fail
              (with_reducible refine (H5e.out w4 HB4.out).mono ?_)
              rintro e w5 ⟨rfl, rfl⟩
              go_wp2_with fail
              (with_reducible refine (HAD.out w4 HB4.out).mono ?_)
              rintro e w5 ht5
              obtain ⟨rfl, hK5, hR5⟩ := ht5
              have HLI := Lib.hid (rlinks_tr id 1 y w5 hR5 HL1.out HY1.out (by omega) hlk)
              have HT5 : Hid (RTurn F w4 r (setName T d2 n2 id) (.tuple #[]) (.returned (.tuple #[])) w5) := ⟨rfl, hK5, hR5⟩
              clear hK5 hR5
              go_wp2_with fail
              (with_reducible refine HLI.out.mono ?_)
              rintro e w6 ht6
              have HT6 := Lib.hid ht6
              obtain rfl := ht6.1
              clear ht6
              go_wp2_with fail
              go_ret
              rw [HQ.out]
              exact (RTurnP.behind HH.out.low HB4.out (HT5.out.trans (HH.out.below HB4.out (Nat.le_refl _)).low HT6.out)).val _
        · have HQ := Lib.hid (HB.out e2 h3 (by rw [if_neg (by simp), if_neg (by simp), if_neg h2, if_pos h3]))
          have hne : (e2 == 0) = false := by simpa using h3
          have hne2 : (e2 != 0) = true := by simpa using h3
          clear h2 h3
          go_enter Tryz.func25, Tryz.ntmps25
          go_wp2_with fail
          (with_reducible refine H1.out.mono ?_)
          rintro e w1 ⟨rfl, hb1⟩
          have HB1 := Lib.hid hb1
          clear hb1
          go_wp2_with fail
          (with_reducible refine (H2.out w1 HB1.out).mono ?_)
          rintro e w2 ⟨rfl, hb2⟩
          have HB2 := Lib.hid (HB1.out.trans (hb2.mono HB1.out.size))
          clear hb2
          go_wp2_with fail
          (with_reducible refine (H4y.out w2 HB2.out).mono ?_)
          rintro e w3 ⟨rfl, hb3⟩
          have HB3 := Lib.hid (HB2.out.trans (hb3.mono HB2.out.size))
          have hz3 := HB3.out.size
          clear hb3
          go_wp2_with fail
          (with_reducible refine (H3.out _ (HB3.out.trans ((wall w3 _).mono HB3.out.size))).mono ?_)
          rintro e w4 ⟨rfl, hb4⟩
          have HB4 := Lib.hid ((HB3.out.trans ((wall w3 _).mono HB3.out.size)).trans (hb4.mono (by simp; omega)))
          have q4 : w4.cell? ⟨w3.heap.size, 2, none⟩ = some (.int .i64 y.links) := by rw [hb4.cell (p := ⟨w3.heap.size, 2, none⟩) (by simp)]; exact cell_new w3 _ _ 2
          have hz4 : w3.heap.size < w4.heap.size := by have := hb4.size; simp at this; omega
          clear hb4
          go_wp2_with fail
          go_ret
          exact RTurn.no HH.out HB4.out HQ.out
    · have HQ := Lib.hid (HB.out e1 h1 (by rw [if_neg (by simp), if_pos h1]))
      have hne : (e1 == 0) = false := by simpa using h1
      have hne2 : (e1 != 0) = true := by simpa using h1
      clear h1
      go_enter Tryz.func25, Tryz.ntmps25
      go_wp2_with fail
      (with_reducible refine H1.out.mono ?_)
      rintro e w1 ⟨rfl, hb1⟩
      have HB1 := Lib.hid hb1
      clear hb1
      go_wp2_with fail
      (with_reducible refine (H2.out w1 HB1.out).mono ?_)
      rintro e w2 ⟨rfl, hb2⟩
      have HB2 := Lib.hid (HB1.out.trans (hb2.mono HB1.out.size))
      clear hb2
      go_wp2_with fail
      go_ret
      exact RTurn.no HH.out HB2.out HQ.out
  · have HQ := Lib.hid (HB.out f0 h0 (if_pos h0))
    have hne : (f0 == 0) = false := by simpa using h0
    have hne2 : (f0 != 0) = true := by simpa using h0
    clear h0
    go_enter Tryz.func25, Tryz.ntmps25
    go_wp2_with fail
    (with_reducible refine H1.out.mono ?_)
    rintro e w1 ⟨rfl, hb1⟩
    have HB1 := Lib.hid hb1
    clear hb1
    go_wp2_with fail
    go_ret
    exact RTurn.no HH.out HB1.out HQ.out
end
end Go.Proofs.YtbapdoicejakhaaGreat
namespace Go.Proofs.YtbapdoicejakhaaGreat
open Go.ChangeShapes Go.WideShapes Go.ChangeAt Go.RowKit
set_option linter.unusedVariables false
set_option linter.unusedSimpArgs false

theorem ents_of {id : Int} : ∀ {T : TrM} {x : ItM}, ASorted ilt T → aget id T = some x → (entsM T).filter (fun e => decide (e.1 = id)) = x.names.map fun e => (id, e.1, e.2)
  | [], x, _, hx => by cases hx
  | y :: r, x, hs, hx => by
    obtain ⟨h1, h2⟩ := List.pairwise_cons.1 hs
    rw [aget_cons] at hx
    rw [entsM_cons, List.filter_append]
    by_cases hy : y.1 = id
    · rw [if_pos hy] at hx
      cases hx
      have e1 : (entsOf y).filter (fun e => decide (e.1 = id)) = entsOf y := by
        rw [List.filter_eq_self]
        intro e he
        obtain ⟨z, _, rfl⟩ := List.mem_map.1 he
        simp [hy]
      have e2 : (entsM r).filter (fun e => decide (e.1 = id)) = [] := by
        rw [List.filter_eq_nil_iff]
        intro e he
        obtain ⟨q, hq, hk, _⟩ := ent_key he
        have := h1 q hq
        simp only [decide_eq_true_eq] at this
        simp only [decide_eq_true_eq]
        omega
      rw [e1, e2, List.append_nil]
      unfold entsOf
      rw [hy]
    · rw [if_neg hy] at hx
      have e1 : (entsOf y).filter (fun e => decide (e.1 = id)) = [] := by
        rw [List.filter_eq_nil_iff]
        intro e he
        obtain ⟨z, _, rfl⟩ := List.mem_map.1 he
        simp [hy]
      rw [e1, List.nil_append, ents_of h2 hx]
/-- The names found so far. -/
def lnk (E : List Ent) (id : Int) (k : Nat) : List Nm := ((E.take k).filter fun e => decide (e.1 = id)).map fun e => e.2.1
def lnv (E : List Ent) (id : Int) (k : Nat) : List Value := (lnk E id k).map fun n => .string (strOf n)
theorem lnk_yes {E : List Ent} {id : Int} {k : Nat} {e : Ent} (hx : E[k]? = some e) (he : e.1 = id) : lnk E id (k + 1) = lnk E id k ++ [e.2.1] := by
  obtain ⟨hk, h⟩ := List.getElem?_eq_some_iff.1 hx
  unfold lnk
  rw [List.take_succ_eq_append_getElem hk, List.filter_append, h, List.map_append]
  simp [he]
theorem lnk_no {E : List Ent} {id : Int} {k : Nat} {e : Ent} (hx : E[k]? = some e) (he : e.1 ≠ id) : lnk E id (k + 1) = lnk E id k := by
  obtain ⟨hk, h⟩ := List.getElem?_eq_some_iff.1 hx
  unfold lnk
  rw [List.take_succ_eq_append_getElem hk, List.filter_append, h, List.map_append]
  simp [he]
theorem lnk_len (E : List Ent) (id : Int) (k : Nat) : (lnk E id k).length ≤ k := by
  unfold lnk
  rw [List.length_map]
  exact Nat.le_trans (List.length_filter_le _ _) (List.length_take_le _ _)
theorem infoStr : (Tryz.prog.info? 9).map (fun i => (i.zero, i.size, i.bytes)) = some (some (.string ByteArray.empty), 1, 16) := by kernel_rfl
/-- While the list is made. -/
def ListRel (w0 : World) (B : Nat) (E : List Ent) (id : Int) (k : Nat) (v : Value) (wr : World) : Prop :=
  wr.ownsRow B 9 1 v (lnk E id k).length (lnv E id k) ∧ Below B w0 wr ∧ B ≤ wr.heap.size
theorem list_step {w0 wr w3 : World} {B : Nat} {E : List Ent} {id : Int} {k m c : Nat} {nm : Nm} {v : Value} {A : Option Addr} {o : Obj} (hp : lnk E id (k + 1) = lnk E id k ++ [nm]) (hm : m = (lnk E id k).length) (ho3 : w3.ownsRow B 9 1 (.slice A (m + 1) c) (m + 1) (lnv E id k ++ [.string (strOf nm)])) (ho : wr.ownsRow B 9 1 v m (lnv E id k)) (hg : (wr.alloc o).grownBy w3 v.ownBlock) (hB : Below B w0 wr) (hBs : B ≤ wr.heap.size) : ListRel w0 B E id (k + 1) (.slice A (m + 1) c) w3 := by
  have hs := hg.size
  have e1 : (lnk E id (k + 1)).length = m + 1 := by rw [hp, List.length_append, hm]; rfl
  have e2 : lnv E id (k + 1) = lnv E id k ++ [.string (strOf nm)] := by unfold lnv; rw [hp, List.map_append]; rfl
  unfold ListRel
  rw [e1, e2]
  refine ⟨ho3, (hB.alloc hBs o).trans ⟨hg.os, hg.tape, hg.output, hg.size, fun b hb => hg.block b (by simp; omega) (fun e => by have := own_block_ge ho b e.symm; omega)⟩, ?_⟩
  rw [World.size_alloc] at hs
  omega
theorem list_end {w w2 wr : World} {E : List Ent} {id : Int} {k : Nat} {v : Value} {L : List Nm} (h : ListRel w2 w2.heap.size E id k v wr) (hL : lnk E id k = L) (hb : Below w.heap.size w w2) (hs : ∀ l ∈ L, l.length ≤ maxLen) : NewList w (L, 0) (.returned (.tuple #[v, .int .i64 0])) wr := by
  obtain ⟨ho, hB, hBs⟩ := h
  have hsz := hb.size
  unfold lnv at ho
  rw [hL] at ho
  obtain ⟨a, c, rfl, hlc⟩ := own_form ho
  obtain ⟨_, hrow⟩ := RowAt.of_own ho
  refine ⟨a, c, rfl, hlc, ⟨?_, fun s hs' => ?_⟩, hb.trans (hB.mono hsz)⟩
  · rw [List.map_map]
    exact hrow.mono fun b hb => ⟨by omega, hb.2⟩
  · obtain ⟨l, hl, rfl⟩ := List.mem_map.1 hs'
    rw [strOf_size]
    exact hs l hl
section
variable {F : Nat → Prop} {r : Nat} {T : TrM}
set_option maxRecDepth 100000 in
set_option maxHeartbeats 8000000 in
theorem rlist_any (id : Int) (w : World) (h : RefAt F w r T) (hT : OkM T) : Calls Tryz.prog 67 #[ptr r, .int .i64 id] w (NewList w (listM T id)) := by
  have hE := ents_few hT
  have H4 := Lib.hid (rnode_any id w h hT.toOkP)
  have hr0 := h.low r h.own
  unfold nodeM at H4
  unfold listM
  cases hx : aget id T with
  | none =>
    rw [hx] at H4
    clear h hx hT
    go_enter Tryz.func67, Tryz.ntmps67
    go_wp2_with fail
    (with_reducible refine H4.out.mono ?_)
    rintro e w1 ⟨rfl, hb1⟩
    go_wp2_with fail
    go_ret2
    exact ⟨none, 0, rfl, Nat.le_refl _, ⟨RowAt.nil _ _ _, by simp⟩, hb1.trans ((wall w1 _).mono hb1.size)⟩
  | some x =>
    rw [hx] at H4
    simp only at H4
    unfold nodeV at H4
    by_cases hk : x.kind = 2
    · rw [hk] at H4
      simp only [if_pos hk]
      obtain ⟨i0, hi, hz, hz1, hz2⟩ := info_parts infoStr
      have HI := Lib.hid (And.intro hi (And.intro hz (And.intro hz1 hz2)))
      have HN := Lib.hid (ents_of hT.sorted hx)
      have HH := Lib.hid (fun w1 (hb : Below w.heap.size w w1) => (h.below hb (Nat.le_refl _)).ent)
      have hgood := Lib.hid ((hT.each id x hx).good)
      obtain ⟨n, hn⟩ : ∃ n, n = (entsM T).length := ⟨_, rfl⟩
      generalize entsM T = E at *
      rw [← hn] at hE
      have HL := Lib.hid hn
      clear h hx hT hk hi hz hz1 hz2 hn
      go_enter Tryz.func67, Tryz.ntmps67
      go_wp2_with fail
      (with_reducible refine H4.out.mono ?_)
      rintro e w1 ⟨rfl, hb1⟩
      have HB1 := Lib.hid (hb1.trans ((wall w1 (.cells #[.int .i64 id, .int .i64 2, .int .i64 x.links, .int .i64 x.b.length, .int .u64 x.til, .bool x.closed] 29)).mono hb1.size))
      have hs1 := hb1.size
      clear hb1
      go_wp2_with fail
      generalize (w1.alloc (.cells #[.int .i64 id, .int .i64 2, .int .i64 x.links, .int .i64 x.b.length, .int .u64 x.til, .bool x.closed] 29)) = w2 at *
      obtain ⟨aE, cE, q2, q3, hrow, -⟩ := HH.out w2 HB1.out
      rw [← HL.out] at q2 q3 hrow
      have HR := Lib.hid hrow
      have hs2 := HB1.out.size
      have hr2 : r < w2.heap.size := by omega
      clear hrow HH
      go_loopw [8, 9] (fun v i wr => ∃ k : Nat, k ≤ n ∧ i = .int .i64 k ∧ ListRel w2 w2.heap.size E id k v wr) (fun _ i _ => n - (intOf i).toNat)
      case atStart => exact ⟨0, by omega, rfl, ⟨rfl, .inl ⟨rfl, rfl⟩⟩, Below.refl _ _, Nat.le_refl _⟩
      case round =>
        obtain ⟨k, hk, rfl, hown, hB, hBs⟩ := hrel
        have HO := Lib.hid hown
        have HB := Lib.hid hB
        have c2 : wr.cell? ⟨r, 2, none⟩ = some (.slice aE n cE) := by rw [hB.cell (p := ⟨r, 2, none⟩) hr2]; exact q2
        have hrr : r < wr.heap.size := by omega
        have hll := lnk_len E id k
        clear hB hown
        by_cases hlt : k < n
        · have hx : E[k]? = some (E[k]'(by have := HL.out; omega)) := List.getElem?_eq_getElem _
          obtain ⟨q, hq⟩ : ∃ q, q = E[k]'(by have := HL.out; omega) := ⟨_, rfl⟩
          rw [← hq] at hx
          have HX := Lib.hid hx
          obtain ⟨b, off, rfl, hF, hb, hi, hc⟩ := (HR.out.below HB.out (Nat.le_refl _)).wide entC_len HL.out.symm hx (by omega)
          have c0 : wr.cell? ⟨b, off + k * 3, none⟩ = some (.int .i64 q.1) := hc 0 (by omega)
          have c1 : wr.cell? ⟨b, off + k * 3 + 1, none⟩ = some (.string (strOf q.2.1)) := hc 1 (by omega)
          clear hx hq hc
          have i0 : (0 : Int) ≤ k := by omega
          have i1 : (k : Int) < n := by omega
          by_cases hp : q.1 = id
          · have hpp : (q.1 == id) = true := by simpa using hp
            have HP := Lib.hid (lnk_yes HX.out hp)
            obtain ⟨m, hm⟩ : ∃ m, m = (lnk E id k).length := ⟨_, rfl⟩
            have HM := Lib.hid hm
            rw [← hm] at HO hll
            clear hp hm
            go_wp2_with ((at_builtin; refine wpList_append_row rfl _ _ 36 rfl w2.heap.size 9 _ (.string ByteArray.empty) 16 Tryz.underlying36 HI.out.1 HI.out.2.1 HI.out.2.2.1 HI.out.2.2.2 rfl _ m (lnv E id k) rfl (HO.out.alloc _) (some ⟨wr.heap.size, 0, none⟩) 1 1 [.string (strOf q.2.1)] rfl (one_row _ _) (by simp [Value.oneCell']) (by unfold maxLen; omega) (by omega) (by simp; omega) ?_; intro A1 k1 w3 hown3 hgrow3 _ _))
            have HG := Lib.hid hgrow3
            have HO3 := Lib.hid hown3
            clear hgrow3 hown3
            go_wp2
            go_roundw
            case rel => exact ⟨k + 1, by omega, by go_num, list_step HP.out HM.out HO3.out HO.out HG.out HB.out hBs⟩
            case measure => simp [intOf]; omega
          · have hpp : (q.1 == id) = false := by simpa using hp
            have HP := Lib.hid (lnk_no HX.out hp)
            clear hp
            go_wp2
            go_roundw
            case rel => exact ⟨k + 1, by omega, by go_num, by unfold ListRel lnv; rw [HP.out]; exact ⟨HO.out, HB.out, hBs⟩⟩
            case measure => simp [intOf]; omega
        · go_wp2
          go_ret2
          have hkn : k = n := by omega
          refine list_end ⟨HO.out, HB.out, hBs⟩ ?_ HB1.out ?_
          · unfold lnk
            rw [List.take_of_length_le (by have := HL.out; omega), HN.out, List.map_map]
            rfl
          · intro l hl
            obtain ⟨e, he, rfl⟩ := List.mem_map.1 hl
            have := good_len _ (hgood.out e he)
            unfold maxLen; omega
    · have e1 : (x.kind == 2) = false := by simpa using hk
      have e2 : (x.kind != 2) = true := by simpa using hk
      simp only [if_neg hk]
      clear h hx hT hk
      go_enter Tryz.func67, Tryz.ntmps67
      go_wp2_with fail
      (with_reducible refine H4.out.mono ?_)
      rintro e w1 ⟨rfl, hb1⟩
      go_wp2_with fail
      go_ret2
      exact ⟨none, 0, rfl, Nat.le_refl _, ⟨RowAt.nil _ _ _, by simp⟩, hb1.trans ((wall w1 _).mono hb1.size)⟩
end
end Go.Proofs.YtbapdoicejakhaaGreat
