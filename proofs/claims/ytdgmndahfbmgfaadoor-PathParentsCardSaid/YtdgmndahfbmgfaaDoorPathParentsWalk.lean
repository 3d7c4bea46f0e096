/- The walk of PathParents: it returns true for any names. -/
import Derived.Test.YtdgmndahfbmgfaaDoorStrArg
import Derived.Laws.OwnMore
namespace Go.Proofs.YtdgmndahfbmgfaaDoor.pathParents
open Go.ChangeShapes Go.WideShapes Go.ChangeAt Go.RowKit
set_option linter.unusedVariables false

theorem good_snoc {gs : List ByteArray} {x : ByteArray} (h : ∀ s ∈ gs, s.size ≤ maxLen) (hx : x.size ≤ maxLen) : ∀ s ∈ gs ++ [x], s.size ≤ maxLen := by
  intro s hs
  rcases List.mem_append.1 hs with hs | hs
  · exact h s hs
  · rw [List.mem_singleton.1 hs]; exact hx

/-- What the loop that collects good names keeps. -/
def GoodRel (W : World) (len : Nat) (v i : Value) (wr : World) : Prop :=
  ∃ (k : Nat) (gs : List ByteArray), i = .int .i64 k ∧ k ≤ len ∧ wr.ownsRow W.heap.size 9 1 v gs.length (gs.map .string) ∧ Below W.heap.size W wr ∧ (bls gs).all goodL = true ∧ (∀ s ∈ gs, s.size ≤ maxLen) ∧ gs.length ≤ 8


/-- The append law where the operation is guarded, and the guard says yes. -/
theorem append_g {P : Program} {w : World} {ops : Array Oper} {rest : List Oper} {o : Oper} {a : Act} {Q : Exit → Act → World → Prop} (hw : Region.wanted o (yielded ops a.tmps) = true) (s x : Operand) (t : TypeId)
    (ho : o.op = .call { callee := .builtin .append, args := #[s, x], argTypes := #[t, t] })
    (base : Nat) (e : TypeId) (i : TypeInfo) (z : Value) (size bytes : Nat) (ht : P.underlying t = some (.slice e)) (hi : P.info? e = some i) (hz : i.zero = some z)
    (hsize : i.size = size) (hby : i.bytes = bytes) (hzs : z.cells.size = size) (hsz : 0 < size)
    (v : Value) (n : Nat) (xs : List Value) (hs : a.eval s = v) (hown : w.ownsRow base e size v n xs)
    (ad : Addr) (m c : Nat) (news : List Value) (hx : a.eval x = .slice (some ad) m c) (hl : news.length = m * size) (hnews : ∀ j u, news[j]? = some u → w.cell? (ad.add j) = some u) (h1 : ∀ u ∈ news, u.oneCell' = true)
    (h63 : n + m ≤ maxLen) (hbytes : (n + m) * bytes ≤ 140737488355328) (hbase : base ≤ w.heap.size)
    (h : ∀ v' w', w'.ownsRow base e size v' (n + m) (xs ++ news) → w.grownBy w' v.ownBlock → (v' = .slice none 0 0 ↔ v = .slice none 0 0 ∧ m = 0) → wpList P ops Q rest (a.put o.dst v') w') : wpList P ops Q (o :: rest) a w :=
  BigFrame.wpList_want hw fun K hK => wp_append_own w s x t ho base e i z size bytes ht hi hz hsize hby hzs hsz v n xs hs hown ad m c news hx hl hnews h1 h63 hbytes hbase fun v' w' h2 h3 h4 => hK _ _ (h v' w' h2 h3 h4)

theorem one_strs (ss : List ByteArray) : ∀ u ∈ ss.map Value.string, u.oneCell' = true := by
  intro u hu
  obtain ⟨s, _, rfl⟩ := List.mem_map.1 hu
  rfl
theorem strs_news {S : Nat → Prop} {w : World} {g len : Nat} {ss : List ByteArray} (h : StrsAt S w (some ⟨g, 0, none⟩) len ss) : ∀ j u, (ss.map Value.string)[j]? = some u → w.cell? ((⟨g, 0, none⟩ : Addr).add j) = some u := by
  intro j u hu
  rw [List.getElem?_map] at hu
  cases hs : ss[j]? with
  | none => rw [hs] at hu; cases hu
  | some s =>
    rw [hs] at hu
    obtain ⟨b', off', s', e, _, _, hs', _, hc⟩ := h.cell j (by have := h.length; have := (List.getElem?_eq_some_iff.1 hs).1; omega)
    simp only [Option.some.injEq, Addr.mk.injEq, and_true] at e
    obtain ⟨rfl, rfl⟩ := e
    rw [hs] at hs'
    cases hs'
    rw [add_plain, hc]
    exact hu

/-- What the second loop keeps. -/
def UpRel (W : World) (gs : List ByteArray) (ga : Option Addr) (p i : Value) (wr : World) : Prop :=
  ∃ (k : Nat) (a : Option Addr) (c : Nat), i = .int .i64 k ∧ k ≤ gs.length ∧ p = .slice a k c ∧ k ≤ c ∧ StrsAt (Fresh W.heap.size) wr a k (gs.take k) ∧ StrsAt (Fresh W.heap.size) wr ga gs.length gs ∧ Below W.heap.size W wr

set_option maxHeartbeats 2000000 in
theorem walk {H : Type} {enc : TypeId × Value → H} (W : World) (base : Nat) (hsh : W.ShapedOpen Tryd.prog) (v0 : Value) (d0 : DataW H) (p0 : List MemPlace) (o0 : Value.okWide Tryd.prog W .any base 22 v0) (h0 : DataW.Trod enc Tryd.prog W 0 (fun _ => true) true 22 v0 d0 p0) (l0 : ∀ x ∈ p0, x.block < W.heap.size) (hsz : (DataW.weightsEach Tryd.prog [22] ([d0] : List (DataW H))).all (· ≤ reachBytes) = true) :
    Calls Tryd.prog 6 #[v0] W (Fine W) := by
  obtain ⟨m, hm, hz0⟩ := maxLen_cell hsh
  obtain ⟨a, len, cap, ss, rest, rfl, hcap, hS, _⟩ := open_strsAt o0 h0 l0
  obtain ⟨i0, hi, hz, hz1, hz2⟩ := info_parts infoString
  clear hsz hsh o0 h0 l0
  have hlm := hS.row.small
  unfold maxLen at hlm
  have HM := Lib.hid hm
  clear hm
  have hB := Below.refl W.heap.size W
  go_enter Tryd.func6, Tryd.ntmps6
  go_wp2_with fail
  go_loopw [3, 4] (GoodRel W len) (fun _ i _ => len - (intOf i).toNat)
  case atStart => exact ⟨0, [], rfl, by omega, World.ownsRow_nil _ _ _ _, hB, rfl, by simp, by simp⟩
  case round =>
    obtain ⟨k, gs, rfl, hk, hown, hb, hall, hsh, hg8⟩ := hrel
    obtain ⟨ga, gc, rfl, hG⟩ := own_strs hown hsh
    have hgc := own_cap hown
    have HALL := Lib.hid hall
    have HSH := Lib.hid hsh
    clear hall hsh
    have hbz := hb.size
    by_cases hlt : k < len ∧ gs.length < 8
    · obtain ⟨hlt, h8⟩ := hlt
      obtain ⟨b, off, x, rfl, _, hbW, hx, hxs, hcell⟩ := (hS.below hb (Nat.le_refl _)).cell k hlt
      have hbW' : b < W.heap.size := by obtain ⟨b', off', e, hS', _⟩ := hS.row.at_ (by omega); simp only [Option.some.injEq, Addr.mk.injEq] at e; omega
      clear hS hx
      cases hg : goodL x.data.toList
      · have HG := Lib.hid hg
        have hown0 := Lib.hid hown
        clear hg hown hG
        go_wp2_with fail
        refine (good_any _ _ hxs).mono ?_
        rintro e w3 ⟨rfl, hB3⟩
        rw [HG.out]
        go_wp2_with fail
        go_roundw
        case rel => exact ⟨k + 1, gs, by go_num, by omega, below_own hown0.out hB3, hb.trans (hB3.mono hbz), HALL.out, HSH.out, hg8⟩
        case measure => simp [intOf]; omega
      · have HG := Lib.hid hg
        have hown0 := Lib.hid hown
        clear hg hown hG
        go_wp2_with fail
        refine (good_any _ _ hxs).mono ?_
        rintro e w3 ⟨rfl, hB3⟩
        rw [HG.out]
        have hcell3 : w3.cell? ⟨b, off + k, none⟩ = some (.string x) := (hB3.cell (p := ⟨b, off + k, none⟩) hbW).trans hcell
        have hown3 := below_own hown0.out hB3
        have hb3 := hb.trans (hB3.mono hbz)
        have hz3 := hb3.size
        clear hcell
        go_wp2_with (at_builtin; refine wpList_append_own _ rfl _ _ 22 rfl W.heap.size 9 i0 (.string ByteArray.empty) 1 16 Tryd.underlying22 hi hz hz1 hz2 rfl (by decide) _ _ _ rfl (hown3.alloc _) ⟨w3.heap.size, 0, none⟩ 1 1 [.string x] rfl rfl (one_new _ _ _) (by simp [Value.oneCell']) (by unfold maxLen; omega) (by omega) (by simp; omega) ?_; intro v' w4 hown4 hgrow _)
        go_roundw
        case rel => exact ⟨k + 1, gs ++ [x], by go_num, by omega, by simpa using hown4, (hb3.alloc hz3 _).grown hgrow (by simp; omega) (fun k hk => (hown3.lt k hk).1), by rw [bls_append, List.all_append, HALL.out]; simp [bls, HG.out], good_snoc HSH.out hxs, by simp; omega⟩
        case measure => simp [intOf]; omega
    · clear hown
      have hexit : (¬ (k : Int) < (len : Int)) ∨ ((k : Int) < (len : Int) ∧ ¬ (gs.length : Int) < 8) := by omega
      clear hlt hS
      rcases hexit with hx1 | ⟨hx1, hx2⟩
      all_goals
        go_wp2_with fail
        go_loopw [3, 6] (UpRel W gs ga) (fun _ i _ => (intOf i).toNat)
        case atStart => exact ⟨gs.length, ga, gc, rfl, Nat.le_refl _, rfl, hgc, by rw [List.take_of_length_le (Nat.le_refl _)]; exact hG, hG, hb⟩
        case round =>
          clear hb hbz hG
          obtain ⟨j, pa, pc, rfl, hj, rfl, hjc, hP, hG, hb⟩ := hrel
          have hbz := hb.size
          cases j with
          | zero =>
            clear hP
            go_wp2_with fail
            refine (within_any _ _ _ _ _ _ _ _ _ hG hG hgc).mono ?_
            rintro e w1 ⟨rfl, hB1⟩
            rw [show withinB gs gs = true by simp [withinB]]
            have hb1 := hb.trans (hB1.mono hbz)
            have hbz1 := hb1.size
            have hG1 := hG.below hB1 (Nat.le_refl _)
            clear hb hB1 hG
            go_wp2_with fail
            refine (within_any (S' := fun _ => False) _ none _ _ 0 0 gs [] _ hG1 ⟨RowAt.nil _ _ _, by simp⟩ hgc).mono ?_
            rintro e w2 ⟨rfl, hB2⟩
            rw [show withinB gs [] = true by simp [withinB]]
            have hb2 := hb1.trans (hB2.mono hbz1)
            have hbz2 := hb2.size
            clear hb1 hB2 hG1
            go_wp2_with fail
            refine (known7_any w2 m ((hb2.cell (p := ⟨0, 0, none⟩) hz0).trans HM.out) (by omega)).mono ?_
            rintro e w3 ⟨rfl, hB3⟩
            go_wp2_with fail
            go_ret
            exact ⟨rfl, hb2.trans (hB3.mono hbz2)⟩
          | succ j =>
            have hjl : (gs.take (j + 1)).length = j + 1 := by simp; omega
            obtain ⟨x, hx⟩ : ∃ x, gs[j]? = some x := ⟨gs[j]'(by omega), List.getElem?_eq_getElem (by omega)⟩
            have hlast : (gs.take (j + 1)).getLast? = some x := by
              rw [List.getLast?_eq_getElem?, hjl]
              simpa using hx
            have hdrop : (gs.take (j + 1)).dropLast = gs.take j := by
              rw [List.dropLast_eq_take, hjl, List.take_take]
              simp
            have hts : gs.take (j + 1) = gs.take j ++ [x] := by rw [List.take_add_one, hx]; rfl
            have hjoin : (pathJoin (bls (gs.take (j + 1)))).length ≤ 137 := by
              have h9 := join_len (bls (gs.take (j + 1))) (by
                rw [List.all_eq_true]
                intro y hy
                obtain ⟨z, hz', rfl⟩ := List.mem_map.1 hy
                exact List.all_eq_true.1 HALL.out _ (List.mem_map.2 ⟨z, List.mem_of_mem_take hz', rfl⟩))
              rw [bls_len, hjl] at h9
              omega
            have hjl1 : (Lib.join (bls (gs.take (j + 1))) [47]).length ≤ 140737488355327 := by
              simp only [pathJoin, List.length_cons] at hjoin
              omega
            have HX := Lib.hid hx
            have HLS := Lib.hid hlast
            have HDR := Lib.hid hdrop
            have HTS := Lib.hid hts
            have HJL := Lib.hid hjl
            clear hx hlast hdrop hts hjl hjoin
            go_wp2_with fail
            refine (parent_any _ _ _ (gs.take (j + 1)) _ hP (by omega) hjc).mono ?_
            rintro e w1 (⟨hnil, _, _⟩ | ⟨g1, c1, x1, hx1, rfl, hc1, hS1, hB1⟩)
            · have := HJL.out
              rw [hnil] at this
              cases this
            · obtain rfl : x = x1 := Option.some.inj (HLS.out.symm.trans hx1)
              have ej : (gs.take (j + 1)).length - 1 = j := by rw [HJL.out]; rfl
              rw [ej] at hc1 hS1 ⊢
              rw [HDR.out] at hS1
              clear hx1 ej
              have hb1 := hb.trans (hB1.mono hbz)
              have hbz1 := hb1.size
              have hP1 := hP.below hB1 (Nat.le_refl _)
              have hG1 := hG.below hB1 (Nat.le_refl _)
              have hS1m : StrsAt (Fresh W.heap.size) w1 (some ⟨g1, 0, none⟩) j (gs.take j) := hS1.mono (fun b hb => by have hb' : wr.heap.size ≤ b := hb; show W.heap.size ≤ b; omega)
              have hxm : x.size ≤ maxLen := HSH.out x (List.mem_of_getElem? HX.out)
              have hlg := hS1.length
              clear hb hB1 hP hG hS1
              have hown1 : (w1.alloc (.cells #[] 9)).ownsRow w1.heap.size 9 1 (.slice (some ⟨w1.heap.size, 0, none⟩) 0 0) 0 [] := World.ownsRow_lit w1 #[] 0 (Nat.le_refl _) (by decide) rfl
              have tok1 : True := trivial
              have hlj : ((gs.take j).map Value.string).length = j * 1 := by rw [List.length_map, hlg]; omega
              go_wp2_with (first
                | (at_builtin; have _t := tok1; refine append_g rfl _ _ 22 rfl w1.heap.size 9 i0 (.string ByteArray.empty) 1 16 Tryd.underlying22 hi hz hz1 hz2 rfl (by decide) _ _ _ rfl hown1 ⟨g1, 0, none⟩ j c1 ((gs.take j).map Value.string) rfl hlj (strs_news (strs_then hS1m _)) (one_strs _) (by unfold maxLen; omega) (by omega) (by first | omega | (simp; done) | (simp; omega)) ?_; intro v2 w2 hown2 hgr2 _; clear tok1)
                | (at_builtin; refine append_g rfl _ _ 22 rfl w1.heap.size 9 i0 (.string ByteArray.empty) 1 16 Tryd.underlying22 hi hz hz1 hz2 rfl (by decide) _ _ _ rfl (hown2.alloc _) ⟨w2.heap.size, 0, none⟩ 1 1 [.string x] rfl rfl (one_new _ _ _) (by simp [Value.oneCell']) (by unfold maxLen; omega) (by omega) (by have h9 := hgr2.size; simp at h9; first | omega | (simp; omega)) ?_; intro v3 w3 hown3 hgr3 _))
              have hown3' : w3.ownsRow w1.heap.size 9 1 v3 (j + 1) ((gs.take (j + 1)).map Value.string) := by
                rw [HTS.out, List.map_append]
                simpa using hown3
              have hsh3 : ∀ s ∈ gs.take (j + 1), s.size ≤ maxLen := fun s hs => HSH.out s (List.mem_of_mem_take hs)
              obtain ⟨a3, c3, rfl, hS3⟩ := own_strs hown3' hsh3
              have hc3 := own_cap hown3'
              have hB2 : Below w1.heap.size w1 w2 := ((Below.refl _ _).alloc (Nat.le_refl _) _).grown hgr2 (by first | omega | (simp; done) | (simp; omega)) (fun k hk => by cases hk; exact Nat.le_refl _)
              have hz2' := hB2.size
              have hown2' := hown2.lt
              have hB3 : Below w1.heap.size w2 w3 := ((Below.refl _ _).alloc hz2' _).grown hgr3 (by first | omega | (simp; done) | (simp; omega)) (fun k hk => (hown2' k hk).1)
              have hB4 := hB2.trans hB3
              have hb4 := hb1.trans (hB4.mono hbz1)
              have hbz4 := hb4.size
              have hP4 := hP1.below hB4 (Nat.le_refl _)
              have hG4 := hG1.below hB4 (Nat.le_refl _)
              have hS4 := hS1m.below hB4 (Nat.le_refl _)
              clear hb1 hP1 hG1 hS1m hB2 hB3 hB4 hown1 hown2 hown3 hown3' hown2' hgr2 hgr3 hz2' hlj
              refine (join_any _ _ _ (gs.take (j + 1)) _ hS3 hc3 hjl1 (by omega)).mono ?_
              rintro e w5 ⟨rfl, hB5⟩
              have hb5 := hb4.trans (hB5.mono hbz4)
              have hbz5 := hb5.size
              have hP5 := hP4.below hB5 (Nat.le_refl _)
              have hG5 := hG4.below hB5 (Nat.le_refl _)
              have hS5 := hS4.below hB5 (Nat.le_refl _)
              clear hb4 hP4 hG4 hS4 hS3 hB5
              go_wp2_with fail
              refine (join_any _ _ _ (gs.take (j + 1)) _ hP5 hjc hjl1 (by omega)).mono ?_
              rintro e w6 ⟨rfl, hB6⟩
              have hb6 := hb5.trans (hB6.mono hbz5)
              have hbz6 := hb6.size
              have hG6 := hG5.below hB6 (Nat.le_refl _)
              have hS6 := hS5.below hB6 (Nat.le_refl _)
              clear hb5 hP5 hG5 hS5 hB6
              have hw1 : withinB gs (gs.take j) = true := by
                unfold withinB
                rw [List.length_take, Nat.min_eq_left (by omega)]
                simp
              have hw2 : withinB (gs.take j) gs = false := by
                unfold withinB
                rw [decide_eq_false_iff_not]
                intro e
                have := congrArg List.length e
                simp at this
                omega
              go_wp2_with fail
              refine (within_any _ _ _ _ _ _ gs (gs.take j) _ hG6 hS6 hgc).mono ?_
              rintro e w7 ⟨rfl, hB7⟩
              rw [hw1]
              have hb7 := hb6.trans (hB7.mono hbz6)
              have hbz7 := hb7.size
              have hG7 := hG6.below hB7 (Nat.le_refl _)
              have hS7 := hS6.below hB7 (Nat.le_refl _)
              clear hb6 hG6 hS6 hB7 hw1
              go_wp2_with fail
              refine (within_any _ _ _ _ _ _ (gs.take j) gs _ hS7 hG7 hc1).mono ?_
              rintro e w8 ⟨rfl, hB8⟩
              rw [hw2]
              have hb8 := hb7.trans (hB8.mono hbz7)
              have hG8 := hG7.below hB8 (Nat.le_refl _)
              have hS8 := hS7.below hB8 (Nat.le_refl _)
              clear hb7 hG7 hS7 hB8 hw2
              go_wp2_with fail
              go_roundw
              case rel => exact ⟨j, _, c1, by go_num, by omega, rfl, hc1, hS8, hG8, hb8⟩
              case measure => first | (simp [intOf]; done) | (simp [intOf]; omega)
end Go.Proofs.YtdgmndahfbmgfaaDoor.pathParents
