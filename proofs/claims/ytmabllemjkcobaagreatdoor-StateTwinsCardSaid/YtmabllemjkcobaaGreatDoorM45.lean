/- For StateTwins: Tree and Snaps as marked copies; two replies of one answer. package state: Open; Turns. permafrost/permafrostbook.Same[int]: are two slices the same? Literal slices of texts. StateTwins: the walk. -/
import Derived.Test.YtmabllemjkcobaaGreatDoorM44
import Derived.Test.YtmabllemjkcobaaGreatDoorM40
import Derived.Test.YtmabllemjkcobaaGreatDoorM33
import Derived.Test.YtmabllemjkcobaaGreatDoorM01
import Derived.BigQuiet
import Derived.Deep.QuietTactic
import Derived.Test.YtmabllemjkcobaaGreatDoorM13
import Derived.Test.YtmabllemjkcobaaGreatDoorM11
import Derived.Test.YtmabllemjkcobaaGreatDoorM41
import Derived.Test.YtmabllemjkcobaaGreatDoorM25
namespace Go.Proofs.YtmabllemjkcobaaGreatDoor
open Go.ChangeShapes Go.WideShapes Go.ChangeAt Go.RowKit
set_option linter.unusedVariables false
set_option linter.unusedSimpArgs false

section
variable {W w : World} {o : Mark} {i j k p : Nat} {M : StM}
theorem stree_mark (hS : StateO o i j k w p M) (hM : Marks W o w) (hok : OkM M.t) (m : Nat) : Calls Tryz.prog 14 #[ptr p] w fun e w' => ∃ q o', e = .returned (ptr q) ∧ Step o (fun i => i = m) w o' w' ∧ TreeO o' m w' q M.t := by
  obtain ⟨t, s, v, h1, h2, h3, h4⟩ := hS.at_
  obtain ⟨z0, z1, z2, z3, z4⟩ := st_cells h1
  have HC := Lib.hid (om_copy h3 hM hok m)
  clear hS hM hok h1 h2 h3 h4 z1 z2 z3 z4
  go_enter Tryz.func14, Tryz.ntmps14
  go_wp2_with fail
  (with_reducible refine HC.out.mono ?_)
  rintro e w1 ⟨q, o1, rfl, hs, hT, hb⟩
  have HT := Lib.hid hT
  have HS := Lib.hid hs
  clear hT hb hs
  go_wp2_with fail
  go_ret
  exact ⟨q, o1, rfl, HS.out, HT.out⟩
theorem ssnaps_mark (hS : StateO o i j k w p M) (hM : Marks W o w) (hl8 : M.s.l.length ≤ 8) (hla : M.s.last.length ≤ 64) (m : Nat) (hm : m ≠ 0) : Calls Tryz.prog 16 #[ptr p] w fun e w' => ∃ q o', e = .returned (ptr q) ∧ Step o (fun i => i = m) w o' w' ∧ SnapsO o' m w' q M.s := by
  obtain ⟨t, s, v, h1, h2, h3, h4⟩ := hS.at_
  obtain ⟨z0, z1, z2, z3, z4⟩ := st_cells h1
  have HC := Lib.hid (scopy_any h2 hM hl8 hla m hm)
  clear hS hM hl8 hla h1 h2 h3 h4 z0 z2 z3 z4
  go_enter Tryz.func16, Tryz.ntmps16
  go_wp2_with fail
  (with_reducible refine HC.out.mono ?_)
  rintro e w1 ⟨q, o1, rfl, hs, hT, hb⟩
  have HT := Lib.hid hT
  have HS := Lib.hid hs
  clear hT hb hs
  go_wp2_with fail
  go_ret
  exact ⟨q, o1, rfl, HS.out, HT.out⟩
end
theorem reply_reC {S1 S2 S3 S4 : Nat → Prop} (r : ReM) (da la da' la' : Option Addr) (dc lc dc' lc' : Nat) (w : World)
    (h1 : RowAt S1 w da r.data.length (r.data.map bv)) (h2 : RowAt S2 w da' r.data.length (r.data.map bv)) (h3 : StrsAt S3 w la r.names.length (r.names.map strOf)) (h4 : StrsAt S4 w la' r.names.length (r.names.map strOf)) :
    Calls Tryz.prog 11 #[.agg (reC r da la dc lc), .agg (reC r da' la' dc' lc')] w fun en w' => en = .returned (.bool true) ∧ Below w.heap.size w w' :=
  reply_same r.er r.n r.data (r.names.map strOf) r.data.length r.names.length _ _ _ _ _ _ da la da' la' dc lc dc' lc' w h1 h2 h3 h4
def syncO : OpM := ⟨17, [], [], 0, 0, 0, 0, 0, []⟩
theorem syncO_ok : OpOk syncO := ⟨by decide, by decide, by decide, by decide, by decide, by decide, by decide, by decide, by decide⟩
theorem do_sync (M : StM) : ∃ r, sdoM M syncO = (r, M) := ⟨(sdoM M syncO).1, rfl⟩
end Go.Proofs.YtmabllemjkcobaaGreatDoor
namespace Go.Proofs.YtmabllemjkcobaaGreatDoor
open Go.ChangeShapes Go.WideShapes Go.ChangeAt Go.RowKit
set_option linter.unusedVariables false
set_option linter.unusedSimpArgs false

/-- The first so many descriptors that are not free. -/
def openTo (M : StM) (k : Nat) : List Int := ((List.range k).filter fun n => (M.fds n).isSome).map fun n : Nat => (n : Int)
def openL (M : StM) : List Int := openTo M 8
theorem openTo_some {M : StM} {k : Nat} {f : FdM} (h : M.fds k = some f) : openTo M (k + 1) = openTo M k ++ [(k : Int)] := by
  unfold openTo
  rw [List.range_succ, List.filter_append, List.map_append, List.filter_cons_of_pos (by rw [h]; rfl)]
  rfl
theorem openTo_none {M : StM} {k : Nat} (h : M.fds k = none) : openTo M (k + 1) = openTo M k := by
  unfold openTo
  rw [List.range_succ, List.filter_append, List.map_append, List.filter_cons_of_neg (by rw [h]; simp)]
  simp
theorem openTo_len (M : StM) (k : Nat) : (openTo M k).length ≤ k := by
  unfold openTo
  rw [List.length_map]
  have := List.length_filter_le (fun n => (M.fds n).isSome) (List.range k)
  rw [List.length_range] at this
  exact this
section
variable {W w : World} {o : Mark} {i j k p : Nat} {M : StM}
set_option maxRecDepth 100000 in
set_option maxHeartbeats 4000000 in
theorem sopens_any (h : StateO o i j k w p M) : Calls Tryz.prog 19 #[ptr p] w (NewInts w (openL M)) := by
  obtain ⟨ti, hi, hz0, hz1, hz2⟩ := info_parts infoInt
  obtain ⟨t, s, v, h1, h2, h3, h4⟩ := h.at_
  obtain ⟨c0, c1, c2, c3, c4⟩ := st_cells h1
  have e3 := c3 0 (by omega)
  have e4 := c3 1 (by omega)
  have e5 := c3 2 (by omega)
  have e6 := c3 3 (by omega)
  have e7 := c3 4 (by omega)
  have e8 := c3 5 (by omega)
  have e9 := c3 6 (by omega)
  have e10 := c3 7 (by omega)
  have H4 := Lib.hid h4
  clear h h1 h2 h3 h4 c3 c4
  go_enter Tryz.func19, Tryz.ntmps19
  go_wp2_with fail
  go_loopw [3, 10] (fun u iv wr => ∃ n : Nat, n ≤ 8 ∧ iv = .int .i64 n ∧ wr.ownsRow w.heap.size 3 1 u (openTo M n).length ((openTo M n).map (Value.int .i64)) ∧ Below w.heap.size w wr) (fun _ iv _ => 8 - (intOf iv).toNat)
  case atStart => exact ⟨0, by omega, rfl, ⟨rfl, .inl ⟨rfl, rfl⟩⟩, Below.refl _ _⟩
  case round =>
    obtain ⟨n, hn, rfl, hO, hb⟩ := hrel
    have hbs := hb.size
    have HO := Lib.hid hO
    have HB := Lib.hid hb
    obtain ⟨a5, c5, rfl, hac5⟩ := own_form hO
    clear hO hb
    by_cases hn8 : n < 8
    · have hd : decide ((n : Int) < 8) = true := by simp; omega
      have hix := index_fd v n hn8 wr
      have hf := H4.out n hn8
      have i0 : (0 : Int) ≤ n := by omega
      cases hfd : M.fds n with
      | none =>
        rw [hfd] at hf
        have hv : v n = .pointer none := hf
        rw [hv] at hix
        have HE := Lib.hid (openTo_none hfd)
        clear hf hv hfd
        go_wp2_with fail
        go_roundw
        case rel => exact ⟨n + 1, by omega, by go_num, by rw [HE.out]; exact HO.out, HB.out⟩
        case measure => simp [intOf]; omega
      | some f =>
        rw [hfd] at hf
        obtain ⟨q, fa, fc, hv, _⟩ := hf
        rw [hv] at hix
        have HE := Lib.hid (openTo_some hfd)
        have hb5 : Below wr.heap.size wr (wr.alloc (.cells #[.int .i64 n] 3)) := wall wr _
        have HO5 := Lib.hid (own_below HO.out hb5)
        have HB5 := Lib.hid hb5
        have HROW := Lib.hid (one_row (w := wr) (.int .i64 n) 3)
        have hz5 := hb5.size
        obtain ⟨L, hL⟩ : ∃ L, L = (openTo M n).length := ⟨_, rfl⟩
        have hLn : L ≤ 8 := by rw [hL]; have := openTo_len M n; omega
        rw [← hL] at HO5 hac5
        have HLL := Lib.hid hL
        rw [← hL]
        clear hv hfd hb5 hL
        go_wp2_with (at_builtin; (refine wpList_append_row (by rfl) _ _ 47 (by rfl) w.heap.size 3 ti (.int .i64 0) 8 Tryz.underlying47 hi hz0 hz1 hz2 rfl _ _ _ (by rfl) HO5.out (some ⟨wr.heap.size, 0, none⟩) 1 1 [.int .i64 n] (by rfl) HROW.out (one_ints [(n : Int)]) (by unfold maxLen; omega) (by omega) (Nat.le_trans hbs hz5) ?_); intro A' c' w6 hown6 hgrow6 _ _)
        have HO6 := Lib.hid hown6
        have HG6 := Lib.hid hgrow6
        clear hown6 hgrow6
        go_roundw
        case rel =>
          refine ⟨n + 1, by omega, by go_num, ?_, ?_⟩
          · rw [HE.out, List.map_append, List.length_append, ← HLL.out]
            exact HO6.out
          · exact (HB.out.trans (HB5.out.mono hbs)).grown HG6.out (by omega) (own_block_ge HO5.out)
        case measure => simp [intOf]; omega
    · have hd : decide ((n : Int) < 8) = false := by simp; omega
      obtain rfl : n = 8 := by omega
      go_wp2_with fail
      go_ret
      exact ⟨a5, c5, rfl, hac5, (RowAt.of_own HO.out).2.mono (fun b hb => ⟨by omega, hb.2⟩), HB.out⟩
end
end Go.Proofs.YtmabllemjkcobaaGreatDoor
namespace Go.Proofs.YtmabllemjkcobaaGreatDoor
open Go.ChangeShapes Go.WideShapes Go.ChangeAt Go.RowKit
set_option linter.unusedVariables false

def SameIsI (w : World) (r : Bool) (e : Ending) (w' : World) : Prop := e = .returned (.bool r) ∧ ∃ q, w' = w.drewN q
theorem take_sameI {xs ys : List Int} {k : Nat} (hk : k < xs.length) (hk' : k < ys.length) (h : xs.take k = ys.take k) (he : xs[k] = ys[k]) : xs.take (k + 1) = ys.take (k + 1) := by
  rw [List.take_succ_eq_append_getElem hk, List.take_succ_eq_append_getElem hk', h, he]
set_option maxHeartbeats 1000000 in
theorem sameI_any {S S' : Nat → Prop} (a b : Option Addr) (ca cb : Nat) (xs ys : List Int) (w : World) (ha : RowAt S w a xs.length (xs.map (Value.int .i64))) (hb : RowAt S' w b ys.length (ys.map (Value.int .i64))) :
    Calls Tryz.prog 18 #[.slice a xs.length ca, .slice b ys.length cb] w (SameIsI w (decide (xs = ys))) := by
  have ha1 := ha.small
  have hb1 := hb.small
  unfold maxLen at ha1 hb1
  by_cases hl : xs.length = ys.length
  · have e1 : ((xs.length : Int) != (ys.length : Int)) = false := by simp [hl]
    obtain ⟨n, hn⟩ : ∃ n, n = xs.length := ⟨_, rfl⟩
    rw [← hn] at hl ha ha1 e1 ⊢
    rw [← hl] at hb hb1 e1 ⊢
    have HA := Lib.hid ha
    have HB := Lib.hid hb
    have HL := Lib.hid hl
    have HN := Lib.hid hn
    have e2 : ((n : Int) != (n : Int)) = false := by simp
    clear ha hb hl hn e1 hb1
    go_enter Tryz.func18, Tryz.ntmps18
    go_wp2
    go_loopw [5] (fun i wr => ∃ k q : Nat, k ≤ n ∧ i = .int .i64 k ∧ wr = w.drewN q ∧ Hid (xs.take k = ys.take k)) (fun i _ => n - (intOf i).toNat)
    case atStart => exact ⟨0, 0, by omega, rfl, rfl, show _ = _ by simp⟩
    case round =>
      obtain ⟨k, q, hk, rfl, rfl, hT⟩ := hrel
      by_cases hlt : k < n
      · obtain ⟨b1, o1, rfl, _, _, hc1⟩ := HA.out.at_ (by omega)
        obtain ⟨b2, o2, rfl, _, _, hc2⟩ := HB.out.at_ (by omega)
        have hx : k < xs.length := by rw [← HN.out]; exact hlt
        have hy : k < ys.length := by rw [← HL.out]; exact hlt
        have g1 : w.cell? ⟨b1, o1 + k, none⟩ = some ((Value.int .i64) xs[k]) := by rw [hc1 k hlt, List.getElem?_map, List.getElem?_eq_getElem hx]; rfl
        have g2 : w.cell? ⟨b2, o2 + k, none⟩ = some ((Value.int .i64) ys[k]) := by rw [hc2 k hlt, List.getElem?_map, List.getElem?_eq_getElem hy]; rfl
        have i0 : (0 : Int) ≤ (k : Int) := by omega
        have i1 : (k : Int) < (n : Int) := by omega
        clear hc1 hc2
        have HX := fun h => take_sameI hx hy hT.out h
        by_cases heq : xs[k] = ys[k]
        · have HX2 := Lib.hid (HX heq)
          have e3 : (xs[k] != ys[k]) = false := by simp [heq]
          clear HX
          generalize xs[k] = x at g1 e3 heq
          generalize ys[k] = y at g2 e3 heq
          have HEQ := Lib.hid heq
          clear heq
          go_wp2
          go_quiet (fail)
          go_wp2
          go_roundw
          case rel => exact ⟨k + 1, _, by omega, by go_num, rfl, HX2⟩
          case measure => simp [intOf]; omega
        · have hne : xs ≠ ys := fun h => heq (by subst h; rfl)
          have e3 : (xs[k] != ys[k]) = true := by simp; exact heq
          have HNE := Lib.hid hne
          clear HX hne
          generalize xs[k] = x at g1 e3 heq
          generalize ys[k] = y at g2 e3 heq
          have HEQ := Lib.hid heq
          clear heq
          go_wp2
          go_quiet (fail)
          go_wp2
          go_ret
          exact ⟨ret_bool (by simp [HNE.out]), _, World.drewN_drewN _ _ _⟩
      · obtain rfl : k = n := by omega
        have he : xs = ys := by
          have := hT.out
          rw [List.take_of_length_le (by rw [← HN.out]; omega), List.take_of_length_le (by rw [← HL.out]; omega)] at this
          exact this
        have HE := Lib.hid he
        clear he
        go_wp2
        go_ret
        exact ⟨ret_bool (by simp [HE.out]), _, rfl⟩
  · have e1 : ((xs.length : Int) != (ys.length : Int)) = true := by simp; omega
    have hne : xs ≠ ys := fun h => hl (by rw [h])
    have HNE := Lib.hid hne
    clear hne hl ha hb
    go_enter Tryz.func18, Tryz.ntmps18
    go_wp2
    go_ret
    exact ⟨ret_bool (by simp [HNE.out]), 0, rfl⟩
theorem sameI_yes {S S' : Nat → Prop} (a b : Option Addr) (n ca cb : Nat) (xs : List Int) (w : World) (ha : RowAt S w a n (xs.map (Value.int .i64))) (hb : RowAt S' w b n (xs.map (Value.int .i64))) :
    Calls Tryz.prog 18 #[.slice a n ca, .slice b n cb] w (SameIsI w true) := by
  have hl : xs.length = n := by have := ha.length; simpa using this
  subst hl
  have := sameI_any a b ca cb xs xs w ha hb
  rwa [show decide (xs = xs) = true by simp] at this
end Go.Proofs.YtmabllemjkcobaaGreatDoor
namespace Go.Proofs.YtmabllemjkcobaaGreatDoor
open Go.ChangeShapes Go.WideShapes Go.ChangeAt Go.RowKit
set_option linter.unusedVariables false

theorem strs_lit {w : World} {vs : List Value} {ls : List Nm} {n : Nat} (t : TypeId) (h : vs = (ls.map strOf).map Value.string) (hn : vs.length = n) (hm : n ≤ 1000) (hs : ∀ l ∈ ls, l.length ≤ 1000) : StrsAt (fun b => b = w.heap.size) (w.alloc (.cells vs.toArray t)) (some ⟨w.heap.size, 0, none⟩) n (ls.map strOf) := by
  subst hn
  refine ⟨?_, fun s hs' => ?_⟩
  · rw [← h]
    exact new_row vs t (by unfold maxLen; omega)
  · obtain ⟨l, hl, rfl⟩ := List.mem_map.1 hs'
    rw [strOf_size]
    have := hs l hl
    unfold maxLen; omega

end Go.Proofs.YtmabllemjkcobaaGreatDoor
namespace Go.Proofs.YtmabllemjkcobaaGreatDoor.stateTwins
open Go.ChangeShapes Go.WideShapes Go.ChangeAt Go.RowKit
set_option linter.unusedVariables false
set_option linter.unusedSimpArgs false

set_option maxRecDepth 100000 in
theorem open_arg {H : Type} {enc : TypeId × Value → H} {W : World} {base : Nat} {v0 : Value} {d0 : DataW H} {p0 : List MemPlace} (h0 : DataW.Trod enc Tryz.prog W 0 (fun _ => true) true 22 v0 d0 p0) (l0 : ∀ x ∈ p0, x.block < W.heap.size) (o0 : Value.okWide Tryz.prog W .any base 22 v0) (hw : ∀ n ∈ d0.weights Tryz.prog 22, n ≤ reachBytes) :
    ∃ a len cap, v0 = .slice a len cap ∧ len ≤ cap ∧ OpsAt W a len := by
  obtain ⟨a0, len, cap, rfl⟩ := okWide_slice Tryz.underlying22 o0
  obtain ⟨fuel, hf⟩ := h0
  exact open_ops hf l0 hw
theorem cells9 {q : Nat} {o : Mark} {w : World} {g : Nat} {x : OpM} {da : Option Addr} {dc : Nat} (h : OpV q o w g x da dc) : w.cell? ⟨g, 0, none⟩ = some (.int .i64 x.kind) ∧ w.cell? ⟨g, 1, none⟩ = some (.string (strOf x.path)) ∧ w.cell? ⟨g, 2, none⟩ = some (.string (strOf x.to_)) ∧ w.cell? ⟨g, 3, none⟩ = some (.int .i64 x.fd) ∧ w.cell? ⟨g, 4, none⟩ = some (.int .i64 x.at_) ∧ w.cell? ⟨g, 5, none⟩ = some (.int .i64 x.n) ∧ w.cell? ⟨g, 6, none⟩ = some (.int .u64 x.til) ∧ w.cell? ⟨g, 7, none⟩ = some (.int .i64 x.snap) ∧ w.cell? ⟨g, 8, none⟩ = some (.slice da x.data.length dc) :=
  ⟨h.cells.1, h.cells.2.1, h.cells.2.2.1, h.cells.2.2.2.1, h.cells.2.2.2.2.1, h.cells.2.2.2.2.2.1, h.cells.2.2.2.2.2.2.1, h.cells.2.2.2.2.2.2.2.1, h.cells.2.2.2.2.2.2.2.2.1⟩
def TwRel (W : World) (p q : Nat) (iv : Value) (wr : World) : Prop := ∃ (k : Nat) (o : Mark) (M : StM), iv = .int .i64 k ∧ k ≤ 60 ∧ StW W o 1 wr p (1 + 2 * k) M ∧ StW W o 6 wr q (1 + 2 * k) M ∧ SnIds M.s
theorem _root_.Go.Proofs.YtmabllemjkcobaaGreatDoor.StW.okM {W : World} {o : Mark} {i : Nat} {w : World} {p : Nat} {c : Int} {M : StM} (h : StW W o i w p c M) : OkM M.t := h.ok.t.1
set_option maxRecDepth 100000 in
set_option maxHeartbeats 64000000 in
theorem walk {H : Type} {enc : TypeId × Value → H} (W : World) (base : Nat) (hsh : W.ShapedOpen Tryz.prog) (v0 : Value) (d0 : DataW H) (p0 : List MemPlace) (o0 : Value.okWide Tryz.prog W .any base 22 v0) (h0 : DataW.Trod enc Tryz.prog W 0 (fun _ => true) true 22 v0 d0 p0) (l0 : ∀ x ∈ p0, x.block < W.heap.size) (hsz : (DataW.weightsEach Tryz.prog [22] ([d0] : List (DataW H))).all (· ≤ reachBytes) = true) :
    Calls Tryz.prog 3 #[v0] W (Fine W) := by
  obtain ⟨m, hm, -⟩ := maxLen_cell hsh
  obtain ⟨a, len, cap, rfl, hlc, hops⟩ := open_arg h0 l0 o0 (fun n hn => by
    rw [List.all_eq_true] at hsz
    exact of_decide_eq_true (hsz n (weightsEach_at (j := 0) rfl rfl n hn)))
  have hlm := hops.1
  unfold maxLen at hlm
  have HM := Lib.hid hm
  have HO := Lib.hid hops
  clear hm hops o0 h0 l0 hsz hsh
  go_enter Tryz.func3, Tryz.ntmps3
  go_wp2_with fail
  (with_reducible refine (st_new (i := 1) (marks0 W) (by omega)).mono ?_)
  rintro e w1 ⟨p, o1, rfl, hs1, hS1⟩
  have HS1 := Lib.hid hS1
  clear hs1 hS1
  go_wp2_with fail
  (with_reducible refine (st_new (i := 6) HS1.out.marks (by omega)).mono ?_)
  rintro e w2 ⟨q, o2, rfl, hs2, hU2⟩
  have HU2 := Lib.hid hU2
  have HS2 := Lib.hid (HS1.out.other (by omega) (by omega) (by omega) hs2)
  clear hs2 hU2 HS1
  go_wp2_with fail
  go_loopw [5, 6, 7, 8, 9] (fun iv _ _ _ _ wr => TwRel W p q iv wr) (fun iv _ _ _ _ _ => 60 - (intOf iv).toNat)
  case atStart => exact ⟨0, o2, newSt, rfl, by omega, HS2.out, HU2.out, SnIds.new⟩
  case round =>
    clear HS2 HU2
    obtain ⟨k, o2, M, rfl, hk, hS, hU, hID⟩ := hrel
    have HS := Lib.hid hS
    have HU := Lib.hid hU
    have HID := Lib.hid hID
    have hbW := hS.below
    clear hS hU hID
    by_cases hlt : k < len
    · by_cases h60 : k < 60
      · obtain ⟨b, off, rfl, hbl, hat⟩ := HO.out.2 (by omega)
        obtain ⟨x, da, dc, hx⟩ := hat k hlt
        obtain ⟨d0, d1, d2, d3, d4, d5, d6, d7, d8⟩ := hx.up hbW hbl
        have HX := Lib.hid hx
        have hd1 : decide ((k : Int) < (len : Int)) = true := by simp; omega
        have hd2 : decide ((k : Int) < 60) = true := by simp; omega
        have i0 : (0 : Int) ≤ (k : Int) := by omega
        have i1 : (k : Int) < (len : Int) := by omega
        have HT := Lib.hid (tame_any wr x hx.ok da dc hx.cap (hx.row.below hbW (Nat.le_refl _)))
        unfold opC at HT
        clear hx hat
        go_wp2_with fail
        (with_reducible refine HT.out.mono ?_)
        rintro e w2 ⟨y, dc2, rfl, hty, hcap, hrow, hb2⟩
        have HYOK := Lib.hid (hty.ok HX.out.ok)
        have HROW := Lib.hid hrow
        have HS2 := Lib.hid (HS.out.grow hb2)
        have HU2 := Lib.hid (HU.out.grow hb2)
        have hbw2 := HS2.out.below.size
        clear hty hcap hrow hb2 HT HS HU d0 d1 d2 d3 d4 d5 d6 d7 d8
        go_wp2_with (refine wpList_store_rep (by rfl) 28 _ _ (by rfl) _ (opC y da dc2) (by rfl) (by rfl) _ (MapKept.heap_alloc _ _).1 opSize rfl (opC_one _ _ _) ?_; intro w3 hs3; obtain ⟨o3, hs3x, hv3⟩ := op_var HS2.out.marks 11 hs3; have HR3 := Lib.hid (HROW.out.below (hs3.below (wall w2 (.cells opZ 28)) (Nat.le_refl _)) (by have := HS2.out.below.size; omega)); have HV3 := Lib.hid hv3; have HS3 := Lib.hid (HS2.out.one (by omega) hs3x); have HU3 := Lib.hid (HU2.out.one (by omega) hs3x); clear hs3 hs3x hv3 HS2 HU2 HROW)
        obtain ⟨R, M2, he⟩ : ∃ R M2, sdoM M y = (R, M2) := ⟨_, _, rfl⟩
        have HID2 : Hid (SnIds M2.s) := by
          have := HID.out.do_ HS3.out.ok.next.1 y
          rw [he] at this; exact Lib.hid this
        have HE := Lib.hid he
        clear he
        have HZS := Lib.hid (HS3.out.grow (Below.refl _ _).drew)
        have HZU := Lib.hid (HU3.out.grow (Below.refl _ _).drew)
        have HZV := Lib.hid (HV3.out.grow HS3.out.marks (Below.refl _ _).drew)
        have HZR := Lib.hid (HR3.out.below (Below.refl _ _).drew (Nat.le_refl _))
        have HROWS : Hid (∀ w', Below W.heap.size W w' → RowAt (fun b => b < W.heap.size) w' da y.data.length (y.data.map bv)) := fun w' hb => by
          have hb3 := HS3.out.below
          have h9 := HR3.out
          exact ⟨h9.length, h9.small, fun h0 => by
            obtain ⟨b9, f9, e9, hS9, hb9, hc9⟩ := h9.at_ h0
            exact ⟨b9, f9, e9, hS9, Nat.lt_of_lt_of_le hS9 hb.size, fun i hi => ((hb.cell (p := ⟨b9, f9 + i, none⟩) hS9).trans (hb3.cell (p := ⟨b9, f9 + i, none⟩) hS9).symm).trans (hc9 i hi)⟩⟩
        have HC1 := Lib.hid (st_doE HZS.out (by omega) (by omega) y HYOK.out da dc2 HZR.out m HM.out (.agg (opC y da dc2)) rfl HE.out)
        unfold opC at HC1
        clear HS3 HU3 HR3
        refine wp_region_noPanic ?_
        refine wp_region_held_drew (S := (fun w' => w'.cell? ⟨w2.heap.size, 0, none⟩ = some (.int .i64 y.kind) ∧ w'.cell? ⟨w2.heap.size, 1, none⟩ = some (.string (strOf y.path)) ∧ w'.cell? ⟨w2.heap.size, 2, none⟩ = some (.string (strOf y.to_)) ∧ w'.cell? ⟨w2.heap.size, 3, none⟩ = some (.int .i64 y.fd) ∧ w'.cell? ⟨w2.heap.size, 4, none⟩ = some (.int .i64 y.at_) ∧ w'.cell? ⟨w2.heap.size, 5, none⟩ = some (.int .i64 y.n) ∧ w'.cell? ⟨w2.heap.size, 6, none⟩ = some (.int .u64 y.til) ∧ w'.cell? ⟨w2.heap.size, 7, none⟩ = some (.int .i64 y.snap) ∧ w'.cell? ⟨w2.heap.size, 8, none⟩ = some (.slice da y.data.length dc2))) (by kernel_rfl) ?_ (fun hS => ?_)
        · exact cells9 HZV.out
        refine tkH 0 (hS := hS) (h := ?_)
        refine tkH 1 (hS := hS) (h := ?_)
        refine tkH 3 (hS := hS) (h := ?_)
        refine tkH 4 (hS := hS) (h := ?_)
        refine rdH 2 (h := fun K hK => ?_)
        go_simp
        (with_reducible refine HC1.out.mono ?_)
        rintro e w4 ⟨o4, ⟨v4, rfl, da4, la4, dc4, lc4, rfl, p1, p2, p3, p4⟩, hs4, hS4⟩
        have HS4 := Lib.hid hS4
        have HU4 := Lib.hid (HZU.out.other (by omega) (by omega) (by omega) hs4)
        have HV4 := Lib.hid (HZV.out.five (by omega) hs4)
        have HP3 := Lib.hid p3
        have HP4 := Lib.hid p4
        have HR4 := Lib.hid (HROWS.out w4 hS4.below)
        clear hs4 hS4 p1 p2 p3 p4 HC1 HZS HZU HZV HZR
        go_wp2_with fail
        refine hK.out _ _ (cells9 HV4.out) (fun hS => ?_)
        clear hK K
        try simp only [Act.put, List.setIfInBounds_toArray, List.set_cons_zero, List.set_cons_succ]
        have HC2 := Lib.hid (st_doE HU4.out (by omega) (by omega) y HYOK.out da dc2 HR4.out m HM.out (.agg (opC y da dc2)) rfl HE.out)
        unfold opC at HC2
        refine rdH 5 (h := fun K hK => ?_)
        go_simp
        (with_reducible refine HC2.out.mono ?_)
        rintro e w5 ⟨o5, ⟨v5, rfl, da5, la5, dc5, lc5, rfl, p1, p2, p3, p4⟩, hs5, hU5⟩
        have HU5 := Lib.hid hU5
        have HS5 := Lib.hid (HS4.out.other (by omega) (by omega) (by omega) hs5)
        have HV5 := Lib.hid (HV4.out.five (by omega) hs5)
        have hn5 : ¬ Five 6 0 := fun e => by have := e.1; omega
        have HRP := Lib.hid (reply_reC R da4 la4 da5 la5 dc4 lc4 dc5 lc5 w5 (HP3.out.free hn5 hs5) p3 ⟨HP4.out.row.free hn5 hs5, HP4.out.short⟩ p4)
        clear hs5 hU5 p1 p2 p3 p4 HC2 HS4 HU4 HV4 HP3 HP4 HR4 hn5
        go_wp2_with fail
        refine hK.out _ _ (cells9 HV5.out) (fun hS => ?_)
        clear hK K
        try simp only [Act.put, List.setIfInBounds_toArray, List.set_cons_zero, List.set_cons_succ]
        refine rdH 6 (h := fun K hK => ?_)
        go_simp
        (with_reducible refine HRP.out.mono ?_)
        rintro e w6 ⟨rfl, hb6⟩
        have HV6 := Lib.hid (HV5.out.grow HS5.out.marks hb6)
        have HS6 := Lib.hid (HS5.out.grow hb6)
        have HU6 := Lib.hid (HU5.out.grow hb6)
        clear hb6 HRP HS5 HU5 HV5
        go_wp2_with fail
        refine hK.out _ _ (cells9 HV6.out) (fun hS => ?_)
        clear hK K
        try simp only [Act.put, List.setIfInBounds_toArray, List.set_cons_zero, List.set_cons_succ]
        refine tkH 7 (hS := hS) (h := ?_)
        refine wpAnyH_done (by kernel_rfl) ?_ _
        refine NoPanic.normal ?_
        clear hS HV6
        have hsv6 : SvOk M2.s := HU6.out.ok.sv (by omega) HID2.out
        have HSA := Lib.hid (stsave_any HU6.out.st HU6.out.marks HU6.out.ok hsv6)
        have HL8 := Lib.hid (And.intro HU6.out.ok.s.few HU6.out.ok.s.last)
        clear hsv6
        go_wp2_with fail
        (with_reducible refine HSA.out.mono ?_)
        rintro e w7 ⟨ra, rn, rc, rfl, hrc, hrr, hb7⟩
        have HS7 := Lib.hid (HS6.out.grow hb7)
        have HU7 := Lib.hid (HU6.out.grow hb7)
        clear hrr hb7 HSA HS6 HU6
        go_wp2_with fail
        (with_reducible refine (stree_mark HU7.out.st HU7.out.marks HU7.out.okM 12).mono ?_)
        rintro e w8 ⟨tq, o8, rfl, hs8, hT8⟩
        have HT8 := Lib.hid hT8
        have HS8 := Lib.hid (HS7.out.one (by omega) hs8)
        have HU8 := Lib.hid (HU7.out.one (by omega) hs8)
        clear hs8 hT8 HS7 HU7
        have HMK := Lib.hid (om_make (HT8.out.grow (wall w8 (.cells #[.string ⟨#[122]⟩] 9))) (HU8.out.marks.grow (wall w8 (.cells #[.string ⟨#[122]⟩] 9))) (by omega) HU8.out.okM (some ⟨w8.heap.size, 0, none⟩) 1 1 [[122]] 2 (strs_lit (w := w8) (vs := [.string ⟨#[122]⟩]) (ls := [[122]]) 9 rfl rfl (by simp) (by simp)) (Nat.le_refl _) (by omega))
        go_wp2_with fail
        (with_reducible refine HMK.out.mono ?_)
        rintro e w9 ⟨rfl, o9, hs9, -⟩
        have HS9 := Lib.hid ((HS8.out.grow (wall w8 (.cells #[.string ⟨#[122]⟩] 9))).one (by omega) hs9)
        have HU9 := Lib.hid ((HU8.out.grow (wall w8 (.cells #[.string ⟨#[122]⟩] 9))).one (by omega) hs9)
        clear hs9 HMK HS8 HU8 HT8
        go_wp2_with fail
        (with_reducible refine (ssnaps_mark HU9.out.st HU9.out.marks HL8.out.1 HL8.out.2 13 (by omega)).mono ?_)
        rintro e wa ⟨sq, oa, rfl, hsa, hNa⟩
        have HNA := Lib.hid hNa
        have HSA := Lib.hid (HS9.out.one (by omega) hsa)
        have HUA := Lib.hid (HU9.out.one (by omega) hsa)
        clear hsa hNa HS9 HU9
        go_wp2_with fail
        (with_reducible refine (stree_any HUA.out.st HUA.out.marks HUA.out.okM).mono ?_)
        rintro e wb ⟨uq, rfl, hTb, hbb⟩
        have HTB := Lib.hid hTb
        have HNB := Lib.hid (HNA.out.step (I := fun _ => False) (fun e => e) (fun e => e) (Step.grow HUA.out.marks hbb))
        have HSB := Lib.hid (HSA.out.grow hbb)
        have HUB := Lib.hid (HUA.out.grow hbb)
        clear hTb hbb HNA HSA HUA
        have HTK := Lib.hid (take_any HNB.out HTB.out HUB.out.marks (by omega) HUB.out.okM HL8.out.1 HL8.out.2 HUB.out.ok.next.1 (by have := HUB.out.ok.next.2; omega))
        go_wp2_with fail
        (with_reducible refine HTK.out.mono ?_)
        rintro e wc ⟨rfl, oc, hsc, -⟩
        have HSC := Lib.hid (HSB.out.one (by omega) hsc)
        have HUC := Lib.hid (HUB.out.one (by omega) hsc)
        clear hsc HTK HNB HTB HSB HUB
        obtain ⟨rs, hrs⟩ := do_sync M2
        have HC3 := Lib.hid (st_doE0 HUC.out (by omega) (by omega) syncO syncO_ok m HM.out (opA 17 ⟨#[]⟩ ⟨#[]⟩ 0 0 0 0 0 none 0 0) rfl rfl hrs)
        clear hrs
        go_wp2_with fail
        (with_reducible refine HC3.out.mono ?_)
        rintro e wd ⟨od, ⟨vd, rfl, dad, lad, dcd, lcd, rfl, p1, p2, p3, p4⟩, hsd, hUd⟩
        have HUD := Lib.hid hUd
        have HSD := Lib.hid (HSC.out.other (by omega) (by omega) (by omega) hsd)
        clear hsd hUd p1 p2 p3 p4 HC3 HSC HUC
        go_wp2_with fail
        go_roundw
        case rel => exact ⟨k + 1, _, M2, by go_num, by omega, HSD.out.mono (by omega), HUD.out.mono (by omega), HID2.out⟩
        case measure => simp [intOf]; omega
      · have hd1 : decide ((k : Int) < (len : Int)) = true := by simp; omega
        have hd2 : decide ((k : Int) < 60) = false := by simp; omega
        have hsv : SvOk M.s := HS.out.ok.sv (by omega) HID.out
        have HSV := Lib.hid hsv
        clear hsv
        have HZS := Lib.hid (HS.out.grow (Below.refl _ _).drew)
        have HZU := Lib.hid (HU.out.grow (Below.refl _ _).drew)
        have HSA := Lib.hid (stsave_any HZS.out.st HZS.out.marks HZS.out.ok HSV.out)
        clear HS HU
        go_wp2_with fail
        refine wp_region_noPanic ?_
        refine wp_region_held_drew (S := (fun _ => True)) (by kernel_rfl) ?_ (fun hS => ?_)
        · exact trivial
        refine tkH 0 (hS := hS) (h := ?_)
        refine tkH 3 (hS := hS) (h := ?_)
        refine rdH 1 (h := fun K hK => ?_)
        go_simp
        (with_reducible refine HSA.out.mono ?_)
        rintro e w4 ⟨ra, rn, rc, rfl, hrc, hrr, hb4⟩
        have HRR := Lib.hid hrr
        have HS4 := Lib.hid (HZS.out.grow hb4)
        have HU4 := Lib.hid (HZU.out.grow hb4)
        clear hrr hb4 HSA HZS HZU
        go_wp2_with fail
        refine hK.out _ _ (trivial) (fun hS => ?_)
        clear hK K
        try simp only [Act.put, List.setIfInBounds_toArray, List.set_cons_zero, List.set_cons_succ]
        refine wpAnyH_mono (S' := fun w' => True ∧ (convert 26 9 (.slice ra rn rc)).run Tryz.prog w' = .ok (.string (strOf (saveSt M))) w') (fun _ h => h.1) _ _ _ _ ?_
        have hSx1 := And.intro hS (conv_row (c := rc) HRR.out)
        clear hS
        have hS := hSx1
        clear hSx1
        refine tkH 2 (hS := hS) (h := ?_)
        have HSB := Lib.hid (stsave_any HU4.out.st HU4.out.marks HU4.out.ok HSV.out)
        refine rdH 4 (h := fun K hK => ?_)
        go_simp
        (with_reducible refine HSB.out.mono ?_)
        rintro e w5 ⟨ua, un, uc, rfl, huc, hur, hb5⟩
        have HUR := Lib.hid hur
        have HRR5 := Lib.hid (HRR.out.kept hb5.size (fun b hb _ => hb5.block b hb.2))
        have HS5 := Lib.hid (HS4.out.grow hb5)
        have HU5 := Lib.hid (HU4.out.grow hb5)
        clear hur hb5 HSB HS4 HU4 HRR
        go_wp2_with fail
        refine hK.out _ _ (⟨trivial, conv_row (c := rc) HRR5.out⟩) (fun hS => ?_)
        clear hK K
        try simp only [Act.put, List.setIfInBounds_toArray, List.set_cons_zero, List.set_cons_succ]
        refine wpAnyH_mono (S' := fun w' => (True ∧ (convert 26 9 (.slice ra rn rc)).run Tryz.prog w' = .ok (.string (strOf (saveSt M))) w') ∧ (convert 26 9 (.slice ua un uc)).run Tryz.prog w' = .ok (.string (strOf (saveSt M))) w') (fun _ h => h.1) _ _ _ _ ?_
        have hSx2 := And.intro hS (conv_row (c := uc) HUR.out)
        clear hS
        have hS := hSx2
        clear hSx2
        refine tkH 5 (hS := hS) (h := ?_)
        refine tkH 6 (hS := hS) (h := ?_)
        refine tkH 7 (hS := hS) (h := ?_)
        refine tkH 8 (hS := hS) (h := ?_)
        refine tkH 10 (hS := hS) (h := ?_)
        have HO1 := Lib.hid (sopens_any HS5.out.st)
        refine rdH 9 (h := fun K hK => ?_)
        go_simp
        (with_reducible refine HO1.out.mono ?_)
        rintro e w6 ⟨oa, oc, rfl, hoc, hor, hb6⟩
        have HOR := Lib.hid hor
        have HUR6 := Lib.hid (HUR.out.kept hb6.size (fun b hb _ => hb6.block b hb.2))
        have HRR6 := Lib.hid (HRR5.out.kept hb6.size (fun b hb hbw => hb6.block b hbw))
        have HS6 := Lib.hid (HS5.out.grow hb6)
        have HU6 := Lib.hid (HU5.out.grow hb6)
        clear hor hb6 HO1 HS5 HU5 HRR5 HUR
        go_wp2_with fail
        refine hK.out _ _ (⟨⟨trivial, conv_row (c := rc) HRR6.out⟩, conv_row (c := uc) HUR6.out⟩) (fun hS => ?_)
        clear hK K
        try simp only [Act.put, List.setIfInBounds_toArray, List.set_cons_zero, List.set_cons_succ]
        have HO2 := Lib.hid (sopens_any HU6.out.st)
        refine rdH 11 (h := fun K hK => ?_)
        go_simp
        (with_reducible refine HO2.out.mono ?_)
        rintro e w7 ⟨qa, qc, rfl, hqc, hqr, hb7⟩
        have HQR := Lib.hid hqr
        have HOR7 := Lib.hid (HOR.out.kept hb7.size (fun b hb _ => hb7.block b hb.2))
        have HUR7 := Lib.hid (HUR6.out.kept hb7.size (fun b hb hbw => hb7.block b hbw))
        have HRR7 := Lib.hid (HRR6.out.kept hb7.size (fun b hb hbw => hb7.block b hbw))
        have HS7 := Lib.hid (HS6.out.grow hb7)
        clear hqr hb7 HO2 HS6 HU6 HRR6 HUR6 HOR
        go_wp2_with fail
        refine hK.out _ _ (⟨⟨trivial, conv_row (c := rc) HRR7.out⟩, conv_row (c := uc) HUR7.out⟩) (fun hS => ?_)
        clear hK K
        try simp only [Act.put, List.setIfInBounds_toArray, List.set_cons_zero, List.set_cons_succ]
        have HSI := Lib.hid (sameI_yes oa qa (openL M).length oc qc (openL M) w7 HOR7.out HQR.out)
        refine rdH 12 (h := fun K hK => ?_)
        go_simp
        (with_reducible refine HSI.out.mono ?_)
        rintro e w8 ⟨rfl, qn, hq8⟩
        have hb8 : Below w7.heap.size w7 w8 := by rw [hq8]; exact ⟨rfl, rfl, rfl, Nat.le_refl _, fun _ _ => rfl⟩
        have HUR8 := Lib.hid (HUR7.out.kept hb8.size (fun b hb hbw => hb8.block b hbw))
        have HRR8 := Lib.hid (HRR7.out.kept hb8.size (fun b hb hbw => hb8.block b hbw))
        have HB8 := Lib.hid (HS7.out.below.trans (hb8.mono HS7.out.below.size))
        clear hq8 hb8 HSI HOR7 HQR HUR7 HRR7 HS7
        go_wp2_with fail
        refine hK.out _ _ (⟨⟨trivial, conv_row (c := rc) HRR8.out⟩, conv_row (c := uc) HUR8.out⟩) (fun hS => ?_)
        clear hK K
        try simp only [Act.put, List.setIfInBounds_toArray, List.set_cons_zero, List.set_cons_succ]
        refine tkH 13 (hS := hS) (h := ?_)
        refine tkH 14 (hS := hS) (h := ?_)
        have hmr : w8.cell? ⟨0, 0, none⟩ = some (.int .i64 m) := (HB8.out.cell (p := ⟨0, 0, none⟩) (World.block_lt_of_cell? W _ HM.out)).trans HM.out
        have HK := Lib.hid (known14_any w8 m hmr)
        clear hmr
        refine rdH 15 (h := fun K hK => ?_)
        go_simp
        (with_reducible refine HK.out.mono ?_)
        rintro e w9 ⟨rfl, hb9⟩
        have HUR9 := Lib.hid (HUR8.out.kept hb9.size (fun b hb hbw => hb9.block b hbw))
        have HRR9 := Lib.hid (HRR8.out.kept hb9.size (fun b hb hbw => hb9.block b hbw))
        have HB9 := Lib.hid (HB8.out.trans (hb9.mono HB8.out.size))
        clear hb9 HK HB8 HUR8 HRR8
        go_wp2_with fail
        refine hK.out _ _ (⟨⟨trivial, conv_row (c := rc) HRR9.out⟩, conv_row (c := uc) HUR9.out⟩) (fun hS => ?_)
        clear hK K
        try simp only [Act.put, List.setIfInBounds_toArray, List.set_cons_zero, List.set_cons_succ]
        refine tkH 16 (hS := hS) (h := ?_)
        refine tkH 17 (hS := hS) (h := ?_)
        refine wpAnyH_done (by kernel_rfl) ?_ _
        refine NoPanic.normal ?_
        clear hS
        go_wp2_with fail
        go_ret
        exact ⟨rfl, HB9.out⟩
    · have hd1 : decide ((k : Int) < (len : Int)) = false := by simp; omega
      have hsv : SvOk M.s := HS.out.ok.sv (by omega) HID.out
      have HSV := Lib.hid hsv
      clear hsv
      have HZS := Lib.hid (HS.out.grow (Below.refl _ _).drew)
      have HZU := Lib.hid (HU.out.grow (Below.refl _ _).drew)
      have HSA := Lib.hid (stsave_any HZS.out.st HZS.out.marks HZS.out.ok HSV.out)
      clear HS HU
      go_wp2_with fail
      refine wp_region_noPanic ?_
      refine wp_region_held_drew (S := (fun _ => True)) (by kernel_rfl) ?_ (fun hS => ?_)
      · exact trivial
      refine tkH 0 (hS := hS) (h := ?_)
      refine tkH 3 (hS := hS) (h := ?_)
      refine rdH 1 (h := fun K hK => ?_)
      go_simp
      (with_reducible refine HSA.out.mono ?_)
      rintro e w4 ⟨ra, rn, rc, rfl, hrc, hrr, hb4⟩
      have HRR := Lib.hid hrr
      have HS4 := Lib.hid (HZS.out.grow hb4)
      have HU4 := Lib.hid (HZU.out.grow hb4)
      clear hrr hb4 HSA HZS HZU
      go_wp2_with fail
      refine hK.out _ _ (trivial) (fun hS => ?_)
      clear hK K
      try simp only [Act.put, List.setIfInBounds_toArray, List.set_cons_zero, List.set_cons_succ]
      refine wpAnyH_mono (S' := fun w' => True ∧ (convert 26 9 (.slice ra rn rc)).run Tryz.prog w' = .ok (.string (strOf (saveSt M))) w') (fun _ h => h.1) _ _ _ _ ?_
      have hSx3 := And.intro hS (conv_row (c := rc) HRR.out)
      clear hS
      have hS := hSx3
      clear hSx3
      refine tkH 2 (hS := hS) (h := ?_)
      have HSB := Lib.hid (stsave_any HU4.out.st HU4.out.marks HU4.out.ok HSV.out)
      refine rdH 4 (h := fun K hK => ?_)
      go_simp
      (with_reducible refine HSB.out.mono ?_)
      rintro e w5 ⟨ua, un, uc, rfl, huc, hur, hb5⟩
      have HUR := Lib.hid hur
      have HRR5 := Lib.hid (HRR.out.kept hb5.size (fun b hb _ => hb5.block b hb.2))
      have HS5 := Lib.hid (HS4.out.grow hb5)
      have HU5 := Lib.hid (HU4.out.grow hb5)
      clear hur hb5 HSB HS4 HU4 HRR
      go_wp2_with fail
      refine hK.out _ _ (⟨trivial, conv_row (c := rc) HRR5.out⟩) (fun hS => ?_)
      clear hK K
      try simp only [Act.put, List.setIfInBounds_toArray, List.set_cons_zero, List.set_cons_succ]
      refine wpAnyH_mono (S' := fun w' => (True ∧ (convert 26 9 (.slice ra rn rc)).run Tryz.prog w' = .ok (.string (strOf (saveSt M))) w') ∧ (convert 26 9 (.slice ua un uc)).run Tryz.prog w' = .ok (.string (strOf (saveSt M))) w') (fun _ h => h.1) _ _ _ _ ?_
      have hSx4 := And.intro hS (conv_row (c := uc) HUR.out)
      clear hS
      have hS := hSx4
      clear hSx4
      refine tkH 5 (hS := hS) (h := ?_)
      refine tkH 6 (hS := hS) (h := ?_)
      refine tkH 7 (hS := hS) (h := ?_)
      refine tkH 8 (hS := hS) (h := ?_)
      refine tkH 10 (hS := hS) (h := ?_)
      have HO1 := Lib.hid (sopens_any HS5.out.st)
      refine rdH 9 (h := fun K hK => ?_)
      go_simp
      (with_reducible refine HO1.out.mono ?_)
      rintro e w6 ⟨oa, oc, rfl, hoc, hor, hb6⟩
      have HOR := Lib.hid hor
      have HUR6 := Lib.hid (HUR.out.kept hb6.size (fun b hb _ => hb6.block b hb.2))
      have HRR6 := Lib.hid (HRR5.out.kept hb6.size (fun b hb hbw => hb6.block b hbw))
      have HS6 := Lib.hid (HS5.out.grow hb6)
      have HU6 := Lib.hid (HU5.out.grow hb6)
      clear hor hb6 HO1 HS5 HU5 HRR5 HUR
      go_wp2_with fail
      refine hK.out _ _ (⟨⟨trivial, conv_row (c := rc) HRR6.out⟩, conv_row (c := uc) HUR6.out⟩) (fun hS => ?_)
      clear hK K
      try simp only [Act.put, List.setIfInBounds_toArray, List.set_cons_zero, List.set_cons_succ]
      have HO2 := Lib.hid (sopens_any HU6.out.st)
      refine rdH 11 (h := fun K hK => ?_)
      go_simp
      (with_reducible refine HO2.out.mono ?_)
      rintro e w7 ⟨qa, qc, rfl, hqc, hqr, hb7⟩
      have HQR := Lib.hid hqr
      have HOR7 := Lib.hid (HOR.out.kept hb7.size (fun b hb _ => hb7.block b hb.2))
      have HUR7 := Lib.hid (HUR6.out.kept hb7.size (fun b hb hbw => hb7.block b hbw))
      have HRR7 := Lib.hid (HRR6.out.kept hb7.size (fun b hb hbw => hb7.block b hbw))
      have HS7 := Lib.hid (HS6.out.grow hb7)
      clear hqr hb7 HO2 HS6 HU6 HRR6 HUR6 HOR
      go_wp2_with fail
      refine hK.out _ _ (⟨⟨trivial, conv_row (c := rc) HRR7.out⟩, conv_row (c := uc) HUR7.out⟩) (fun hS => ?_)
      clear hK K
      try simp only [Act.put, List.setIfInBounds_toArray, List.set_cons_zero, List.set_cons_succ]
      have HSI := Lib.hid (sameI_yes oa qa (openL M).length oc qc (openL M) w7 HOR7.out HQR.out)
      refine rdH 12 (h := fun K hK => ?_)
      go_simp
      (with_reducible refine HSI.out.mono ?_)
      rintro e w8 ⟨rfl, qn, hq8⟩
      have hb8 : Below w7.heap.size w7 w8 := by rw [hq8]; exact ⟨rfl, rfl, rfl, Nat.le_refl _, fun _ _ => rfl⟩
      have HUR8 := Lib.hid (HUR7.out.kept hb8.size (fun b hb hbw => hb8.block b hbw))
      have HRR8 := Lib.hid (HRR7.out.kept hb8.size (fun b hb hbw => hb8.block b hbw))
      have HB8 := Lib.hid (HS7.out.below.trans (hb8.mono HS7.out.below.size))
      clear hq8 hb8 HSI HOR7 HQR HUR7 HRR7 HS7
      go_wp2_with fail
      refine hK.out _ _ (⟨⟨trivial, conv_row (c := rc) HRR8.out⟩, conv_row (c := uc) HUR8.out⟩) (fun hS => ?_)
      clear hK K
      try simp only [Act.put, List.setIfInBounds_toArray, List.set_cons_zero, List.set_cons_succ]
      refine tkH 13 (hS := hS) (h := ?_)
      refine tkH 14 (hS := hS) (h := ?_)
      have hmr : w8.cell? ⟨0, 0, none⟩ = some (.int .i64 m) := (HB8.out.cell (p := ⟨0, 0, none⟩) (World.block_lt_of_cell? W _ HM.out)).trans HM.out
      have HK := Lib.hid (known14_any w8 m hmr)
      clear hmr
      refine rdH 15 (h := fun K hK => ?_)
      go_simp
      (with_reducible refine HK.out.mono ?_)
      rintro e w9 ⟨rfl, hb9⟩
      have HUR9 := Lib.hid (HUR8.out.kept hb9.size (fun b hb hbw => hb9.block b hbw))
      have HRR9 := Lib.hid (HRR8.out.kept hb9.size (fun b hb hbw => hb9.block b hbw))
      have HB9 := Lib.hid (HB8.out.trans (hb9.mono HB8.out.size))
      clear hb9 HK HB8 HUR8 HRR8
      go_wp2_with fail
      refine hK.out _ _ (⟨⟨trivial, conv_row (c := rc) HRR9.out⟩, conv_row (c := uc) HUR9.out⟩) (fun hS => ?_)
      clear hK K
      try simp only [Act.put, List.setIfInBounds_toArray, List.set_cons_zero, List.set_cons_succ]
      refine tkH 16 (hS := hS) (h := ?_)
      refine tkH 17 (hS := hS) (h := ?_)
      refine wpAnyH_done (by kernel_rfl) ?_ _
      refine NoPanic.normal ?_
      clear hS
      go_wp2_with fail
      go_ret
      exact ⟨rfl, HB9.out⟩
end Go.Proofs.YtmabllemjkcobaaGreatDoor.stateTwins
