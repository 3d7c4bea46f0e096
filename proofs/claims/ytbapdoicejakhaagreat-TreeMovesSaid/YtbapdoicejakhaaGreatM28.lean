/- The reference: Look, place, file, rights. Rows whose elements have more than one cell: append. -/
import Derived.Test.YtbapdoicejakhaaGreatM27
namespace Go.Proofs.YtbapdoicejakhaaGreat
open Go.ChangeShapes Go.WideShapes Go.ChangeAt Go.RowKit
set_option linter.unusedVariables false
set_option linter.unusedSimpArgs false

theorem rrights_any {S S' : Nat → Prop} (a : Option Addr) (n c : Nat) (ls : List Nm) (a' : Option Addr) (n' c' : Nat) (ls' : List Nm) (w : World) (hS : StrsAt S w a n (ls.map strOf)) (hS' : StrsAt S' w a' n' (ls'.map strOf)) :
    Calls Tryz.prog 70 #[.slice a n c, .slice a' n' c'] w fun e w' => e = .returned (.int .i64 (fine2 ls ls')) ∧ Below w.heap.size w w' := by
  have H1 := Lib.hid (rright_any a n c ls w hS)
  have H2 := Lib.hid (fun w1 (hb : Below w.heap.size w w1) => rright_any a' n' c' ls' w1 (hS'.below hb (Nat.le_refl _)))
  clear hS hS'
  unfold fine2
  by_cases h0 : fineL ls = 0
  · rw [h0] at H1
    rw [if_neg (by rw [h0]; simp)]
    clear h0
    go_enter Tryz.func70, Tryz.ntmps70
    go_wp2_with fail
    (with_reducible refine H1.out.mono ?_)
    rintro e w1 ⟨rfl, hb1⟩
    have HB1 := Lib.hid hb1
    clear hb1
    go_wp2_with fail
    (with_reducible refine (H2.out w1 HB1.out).mono ?_)
    rintro e w2 ⟨rfl, hb2⟩
    go_wp2_with fail
    go_ret
    exact ⟨rfl, HB1.out.trans (hb2.mono HB1.out.size)⟩
  · rw [if_pos h0]
    have hne : (fineL ls == 0) = false := by simpa using h0
    have hne2 : (fineL ls != 0) = true := by simpa using h0
    clear h0
    go_enter Tryz.func70, Tryz.ntmps70
    go_wp2_with fail
    (with_reducible refine H1.out.mono ?_)
    rintro e w1 ⟨rfl, hb1⟩
    go_wp2_with fail
    go_ret
    exact ⟨rfl, hb1⟩
section
variable {F : Nat → Prop} {r : Nat} {T : TrM}
theorem rLook_any {S : Nat → Prop} (a : Option Addr) (n c : Nat) (ls : List Nm) (w : World) (h : RefAt F w r T) (hT : OkM T) (hE : (entsM T).length ≤ 1000000) (hS : StrsAt S w a n (ls.map strOf)) :
    Calls Tryz.prog 66 #[ptr r, .slice a n c] w fun e w' => e = .returned (.tuple #[.int .i64 (lookE T ls).1, .int .i64 (lookE T ls).2]) ∧ Below w.heap.size w w' := by
  have H1 := Lib.hid (rright_any a n c ls w hS)
  have H2 := Lib.hid (fun w1 (hb : Below w.heap.size w w1) => rlook_any a n c ls w1 (h.below hb (Nat.le_refl _)) hT hE (hS.below hb (Nat.le_refl _)))
  clear hS h hT hE
  unfold lookE
  by_cases h0 : fineL ls = 0
  · rw [h0] at H1
    rw [if_neg (by rw [h0]; simp)]
    clear h0
    go_enter Tryz.func66, Tryz.ntmps66
    go_wp2_with fail
    (with_reducible refine H1.out.mono ?_)
    rintro e w1 ⟨rfl, hb1⟩
    have HB1 := Lib.hid hb1
    clear hb1
    go_wp2_with fail
    (with_reducible refine (H2.out w1 HB1.out).mono ?_)
    rintro e w2 ⟨rfl, hb2⟩
    go_wp2_with fail
    go_ret2
    exact ⟨rfl, HB1.out.trans (hb2.mono HB1.out.size)⟩
  · rw [if_pos h0]
    have hne : (fineL ls == 0) = false := by simpa using h0
    have hne2 : (fineL ls != 0) = true := by simpa using h0
    clear h0
    go_enter Tryz.func66, Tryz.ntmps66
    go_wp2_with fail
    (with_reducible refine H1.out.mono ?_)
    rintro e w1 ⟨rfl, hb1⟩
    go_wp2_with fail
    go_ret2
    exact ⟨rfl, hb1⟩
/-- The place of a file that may be asked. -/
def rfI (T : TrM) (id : Int) : Int := if fileE T id = 0 then idxI (isAt id) T else 0
set_option maxHeartbeats 1000000 in
theorem rfile_any (id : Int) (w : World) (h : RefAt F w r T) (hT : OkP T) : Calls Tryz.prog 76 #[ptr r, .int .i64 id] w fun e w' => e = .returned (.tuple #[.int .i64 (rfI T id), .int .i64 (fileE T id)]) ∧ w = w' := by
  have HR := Lib.hid (rat_any id w h hT.len)
  have hr0 := h.low r h.own
  cases hx : aget id T with
  | none =>
    have e1 : fileE T id = 20 := by unfold fileE; rw [hx]
    have e2 : rfI T id = 0 := by unfold rfI; simp only [e1]; rfl
    rw [idx_none hx] at HR
    rw [e1, e2]
    clear h hx hT e1 e2
    go_enter Tryz.func76, Tryz.ntmps76
    go_wp2_with fail
    (with_reducible refine HR.out.mono ?_)
    rintro e w1 ⟨rfl, rfl⟩
    go_wp2_with fail
    go_ret2
    exact ⟨rfl, rfl⟩
  | some x =>
    obtain ⟨k, hk, hq⟩ := idx_some hT.sorted hx
    rw [hk] at HR
    obtain ⟨b, off, c, hc0, hF, hb, hkl, c0, c1, c2, c3, c4, c5⟩ := h.node hq
    have i0 : (0 : Int) ≤ k := by omega
    have i1 : (k : Int) < T.length := by omega
    have i2 : ¬ (k : Int) < 0 := by omega
    simp only at c0 c1 c2 c3 c4 c5
    by_cases hk2 : x.kind = 2
    · have e1 : fileE T id = 22 := by unfold fileE; rw [hx]; exact if_pos hk2
      have e2 : rfI T id = 0 := by unfold rfI; simp only [e1]; rfl
      rw [e1, e2]
      rw [hk2] at c1
      clear hk2 e1 e2 h hx hk hq hT
      go_enter Tryz.func76, Tryz.ntmps76
      go_wp2_with fail
      (with_reducible refine HR.out.mono ?_)
      rintro e w1 ⟨rfl, rfl⟩
      go_wp2_with fail
      go_ret2
      exact ⟨rfl, rfl⟩
    · have e1 : fileE T id = 0 := by unfold fileE; rw [hx]; exact if_neg hk2
      have e2 : rfI T id = k := by unfold rfI; simp only [e1]; exact hk
      rw [e1, e2]
      have e3 : (x.kind == 2) = false := by simpa using hk2
      clear hk2 e1 e2 h hx hk hq hT
      go_enter Tryz.func76, Tryz.ntmps76
      go_wp2_with fail
      (with_reducible refine HR.out.mono ?_)
      rintro e w1 ⟨rfl, rfl⟩
      go_wp2_with fail
      go_ret2
      exact ⟨rfl, rfl⟩
set_option maxHeartbeats 2000000 in
theorem rplace_any {S : Nat → Prop} (a : Option Addr) (n c : Nat) (ls : List Nm) (w : World) (h : RefAt F w r T) (hT : OkM T) (hE : (entsM T).length ≤ 1000000) (hS : StrsAt S w a n (ls.map strOf)) (hc : n ≤ c) (hn8 : n ≤ 1000000) :
    Calls Tryz.prog 62 #[ptr r, .slice a n c] w fun e w' => e = .returned (.tuple #[.int .i64 (placeM T ls).1, .string (strOf (placeM T ls).2.1), .int .i64 (placeM T ls).2.2]) ∧ Below w.heap.size w w' := by
  have hln : ls.length = n := by have := hS.length; simpa using this
  unfold placeM
  by_cases h0 : ls = []
  · rw [if_pos h0]
    have hn : n = 0 := by rw [← hln, h0]; rfl
    subst hn
    clear h hT hS hE
    go_enter Tryz.func62, Tryz.ntmps62
    go_wp2
    go_ret3
    exact ⟨rfl, Below.refl _ _⟩
  · rw [if_neg h0]
    obtain ⟨j, rfl⟩ : ∃ j, n = j + 1 := ⟨n - 1, by
      have : n ≠ 0 := fun e => h0 (List.eq_nil_of_length_eq_zero (by omega))
      omega⟩
    obtain ⟨b, off, nm, rfl, _, hbw, hx, hsz, hcn⟩ := cell_str hS j (by omega)
    have hdl : (ls.map strOf).take j = ls.dropLast.map strOf := by
      rw [List.dropLast_eq_take, hln, List.map_take]; rfl
    have hnm : ls.getLastD [] = nm := by
      rw [List.getLastD_eq_getLast?, List.getLast?_eq_getElem?, hln, show j + 1 - 1 = j from rfl, hx]; rfl
    have hT1 := hS.take j (by omega)
    rw [hdl] at hT1
    have HLK := Lib.hid (rlook_any _ j c ls.dropLast w h hT hE hT1)
    have HH := Lib.hid (fun w1 (hb : Below w.heap.size w w1) id => rnode_any id w1 (h.below hb (Nat.le_refl _)) hT.toOkP)
    have HTH := Lib.hid (lookM_there hT ls.dropLast 0 (root_there hT))
    have e1 : IntKind.i64.wrap (((j + 1 : Nat) : Int) - 1) = (j : Int) := by rw [show (((j + 1 : Nat) : Int) - 1) = (j : Int) by omega]; exact IntWalk.i64_in _ (by omega)
    have e1' : IntKind.i64.wrap ((j : Int) + 1 - 1) = (j : Int) := by rw [show ((j : Int) + 1 - 1) = (j : Int) by omega]; exact IntWalk.i64_in _ (by omega)
    have i0 : (0 : Int) ≤ j := by omega
    have i1 : (j : Int) < ((j + 1 : Nat) : Int) := by omega
    have i1' : (j : Int) < (j : Int) + 1 := by omega
    have i2 : (((j + 1 : Nat) : Int) == 0) = false := by simp; omega
    have i2' : ((j : Int) + 1 == 0) = false := by simp; omega
    have hjc : j ≤ c := by omega
    rw [hnm]
    clear h hT hE hS hx hsz hdl hnm hT1 hln h0
    obtain ⟨⟨d, e0⟩, hq⟩ : ∃ q, q = lookM T 0 ls.dropLast := ⟨_, rfl⟩
    rw [← hq] at HLK HTH
    rw [← hq]
    clear hq
    simp only at HLK HTH
    simp only
    by_cases he : e0 = 0
    · subst he
      obtain ⟨x, hx⟩ := Option.isSome_iff_exists.1 (HTH.out rfl)
      have hnd : nodeM T d = nodeV d x := by unfold nodeM; rw [hx]
      have hkd := kindM_of hx
      have HHd := Lib.hid (fun w1 hb => HH.out w1 hb d)
      rw [hnd] at HHd
      unfold nodeV at HHd
      rw [if_neg (by simp), hkd]
      clear hnd hkd HH hx HTH
      by_cases hk2 : x.kind = 2
      · rw [if_pos hk2]
        rw [hk2] at HHd
        clear hk2
        go_enter Tryz.func62, Tryz.ntmps62
        go_wp2_with fail
        (with_reducible refine HLK.out.mono ?_)
        rintro e w1 ⟨rfl, hb1⟩
        have HB1 := Lib.hid hb1
        clear hb1
        go_wp2_with fail
        (with_reducible refine (HHd.out w1 HB1.out).mono ?_)
        rintro e w2 ⟨rfl, hb2⟩
        have HB2 := Lib.hid (HB1.out.trans (hb2.mono HB1.out.size))
        clear hb2
        have hs2 := HB2.out.size
        have hc2 : w2.cell? ⟨b, off + j, none⟩ = some (.string (strOf nm)) := by rw [HB2.out.cell (p := ⟨b, off + j, none⟩) hbw]; exact hcn
        have hb2w : b < w2.heap.size := by omega
        go_wp2_with fail
        go_quiet (fail)
        go_wp2_with fail
        go_ret3
        exact ⟨rfl, HB2.out.trans ⟨rfl, rfl, rfl, by simp, fun x hx => Below.heap_alloc _ _ _ (by omega)⟩⟩
      · have e3 : (x.kind == 2) = false := by simpa using hk2
        have e4 : (x.kind != 2) = true := by simpa using hk2
        rw [if_neg hk2]
        clear hk2
        go_enter Tryz.func62, Tryz.ntmps62
        go_wp2_with fail
        (with_reducible refine HLK.out.mono ?_)
        rintro e w1 ⟨rfl, hb1⟩
        have HB1 := Lib.hid hb1
        clear hb1
        go_wp2_with fail
        (with_reducible refine (HHd.out w1 HB1.out).mono ?_)
        rintro e w2 ⟨rfl, hb2⟩
        have HB2 := Lib.hid (HB1.out.trans (hb2.mono HB1.out.size))
        clear hb2
        go_wp2_with fail
        go_ret3
        exact ⟨rfl, HB2.out.trans ((wall w2 _).mono HB2.out.size)⟩
    · rw [if_pos he]
      have hne : (e0 == 0) = false := by simpa using he
      have hne2 : (e0 != 0) = true := by simpa using he
      clear he HH HTH
      go_enter Tryz.func62, Tryz.ntmps62
      go_wp2_with fail
      (with_reducible refine HLK.out.mono ?_)
      rintro e w1 ⟨rfl, hb1⟩
      go_wp2_with fail
      go_ret3
      exact ⟨rfl, hb1⟩
end
end Go.Proofs.YtbapdoicejakhaaGreat
namespace Go.Proofs.YtbapdoicejakhaaGreat
open Go.ChangeShapes Go.WideShapes Go.ChangeAt Go.RowKit
set_option linter.unusedVariables false
set_option linter.unusedSimpArgs false

theorem own_new {w : World} {base g : Nat} {e : TypeId} {k : Nat} (hg : w.heap[g]? = some (.cells #[] e)) (hb : base ≤ g) : w.ownsRow base e k (.slice (some ⟨g, 0, none⟩) 0 0) 0 [] := by
  refine ⟨by simp, .inr ⟨g, 0, #[], rfl, hb, hg, Nat.le_refl _, Nat.zero_le _, by simp, by simp⟩⟩
theorem RowAt.of_ownk {w : World} {base : Nat} {e : TypeId} {k : Nat} {a : Option Addr} {m n c : Nat} {xs : List Value} (h : w.ownsRow base e k (.slice a m c) n xs) (hs : n * k ≤ maxLen) : m = n ∧ n ≤ c ∧ Base a c ∧ RowAt (fun x => base ≤ x ∧ x < w.heap.size) w a (n * k) xs := by
  obtain ⟨h1, h2⟩ := h
  rcases h2 with ⟨h2, rfl⟩ | ⟨g, cap, cur, h2, hg, hcur, h3, h4, h5, h6⟩
  · simp only [Value.slice.injEq] at h2
    obtain ⟨rfl, rfl, rfl⟩ := h2
    have : xs = [] := List.eq_nil_of_length_eq_zero (by omega)
    subst this
    rw [Nat.zero_mul]
    exact ⟨rfl, Nat.le_refl _, Or.inl ⟨rfl, rfl⟩, RowAt.nil _ _ _⟩
  · simp only [Value.slice.injEq] at h2
    obtain ⟨rfl, rfl, rfl⟩ := h2
    have hgw := (Array.getElem?_eq_some_iff.1 hcur).1
    refine ⟨rfl, h3, Or.inr ⟨_, rfl⟩, h1, hs, fun h0 => ⟨g, 0, rfl, ⟨hg, hgw⟩, hgw, fun i hi => ?_⟩⟩
    simp only [World.cell?, hcur, Nat.zero_add]
    rw [← h6, List.getElem?_take, if_pos hi]
    simp
theorem run_append_rows {P : Program} {S : Nat → Prop} {w : World} (base : Nat) (t ty e : TypeId) (i : TypeInfo) (z : Value) (k bytes : Nat) (ht : P.underlying t = some (.slice e)) (hi : P.info? e = some i) (hz : i.zero = some z)
    (hsize : i.size = k) (hby : i.bytes = bytes) (hzs : z.cells.size = k) (hk : 0 < k) (v : Value) (n : Nat) (xs : List Value) (hown : w.ownsRow base e k v n xs)
    (A : Option Addr) (m c : Nat) (news : List Value) (hr : RowAt S w A (m * k) news) (h1 : ∀ u ∈ news, u.oneCell' = true) (h63 : n + m ≤ maxLen) (hbytes : (n + m) * bytes ≤ 140737488355328) (hbase : base ≤ w.heap.size) :
    ∃ A' c' w', (Builtin.append_ #[t, t] ty #[v, .slice A m c]).run P w = .ok (.slice A' (n + m) c') w' ∧ w'.ownsRow base e k (.slice A' (n + m) c') (n + m) (xs ++ news) ∧ w.grownBy w' v.ownBlock ∧
      ((Value.slice A' (n + m) c').ownBlock = v.ownBlock ∨ (Value.slice A' (n + m) c').ownBlock = some w.heap.size) := by
  rcases A with _ | ad
  · have hm : m = 0 := by
      rcases Nat.eq_zero_or_pos m with h0 | h0
      · exact h0
      · obtain ⟨_, _, h, _⟩ := hr.at_ (Nat.mul_pos h0 hk)
        cases h
    subst hm
    have hn : news = [] := List.eq_nil_of_length_eq_zero (by rw [hr.length]; omega)
    subst hn
    obtain ⟨A', c', rfl, _⟩ := own_form hown
    refine ⟨A', c', w, ?_, by simpa using hown, ⟨rfl, rfl, rfl, Nat.le_refl _, fun _ _ _ => rfl⟩, Or.inl rfl⟩
    rcases hown.2 with ⟨h2, rfl⟩ | ⟨g, cap, cur, h2, _, _, hnc, _⟩
    · simp only [Value.slice.injEq] at h2
      obtain ⟨rfl, _, rfl⟩ := h2
      simp [Builtin.append_, run_underlying ht, sizeOf, typeInfo, hi, Builtin.lenOf, Builtin.firstCells]
    · simp only [Value.slice.injEq] at h2
      obtain ⟨rfl, _, rfl⟩ := h2
      simp [Builtin.append_, run_underlying ht, sizeOf, typeInfo, hi, Builtin.lenOf, Builtin.firstCells, hnc, storeCells]
  · obtain ⟨v', w', hr', h2, h3, h4, h5⟩ := run_append_own_at (P := P) w base t ty e i z k bytes ht hi hz hsize hby hzs hk v n xs hown ad m c news hr.length hr.cells h1 h63 hbytes hbase
    obtain ⟨A', c', rfl, _⟩ := own_form h2
    exact ⟨A', c', w', hr', h2, h3, h5⟩
theorem step_append_rows {P : Program} {S : Nat → Prop} {ops : Array Oper} {o : Oper} {a : Act} {w : World} {K : Act → World → Prop} {Q : Exit → Act → World → Prop} {E : Prop} (hgd : o.guard = none) (s x : Operand) (t : TypeId)
    (ho : o.op = .call { callee := .builtin .append, args := #[s, x], argTypes := #[t, t] })
    (base : Nat) (e : TypeId) (i : TypeInfo) (z : Value) (k bytes : Nat) (ht : P.underlying t = some (.slice e)) (hi : P.info? e = some i) (hz : i.zero = some z)
    (hsize : i.size = k) (hby : i.bytes = bytes) (hzs : z.cells.size = k) (hk : 0 < k) (v : Value) (n : Nat) (xs : List Value) (hs : a.eval s = v) (hown : w.ownsRow base e k v n xs)
    (A : Option Addr) (m c : Nat) (news : List Value) (hx : a.eval x = .slice A m c) (hr : RowAt S w A (m * k) news) (h1 : ∀ u ∈ news, u.oneCell' = true) (h63 : n + m ≤ maxLen) (hbytes : (n + m) * bytes ≤ 140737488355328) (hbase : base ≤ w.heap.size)
    (h : ∀ A' c' w', w'.ownsRow base e k (.slice A' (n + m) c') (n + m) (xs ++ news) → Below base w w' → K (a.put o.dst (.slice A' (n + m) c')) w') :
    if Region.wanted o (yielded ops a.tmps) = true then Oper.wp P o a w K Q else E := by
  have hw : Region.wanted o (yielded ops a.tmps) = true := by simp [Region.wanted, hgd]
  rw [if_pos hw]
  obtain ⟨A', c', w', hr, h2, h3, h4⟩ := run_append_rows (P := P) base t o.type e i z k bytes ht hi hz hsize hby hzs hk v n xs hown A m c news hr h1 h63 hbytes hbase
  unfold Oper.wp execOp
  simp only [ho, resolve, invoke, builtin, Sem.run_bind, Sem.run_pure, Result.andThen_ok, List.map_toArray, List.map_cons, List.map_nil, hs, hx, hr]
  exact h A' c' w' h2 ⟨h3.os, h3.tape, h3.output, h3.size, fun b hb => h3.block b (by omega) (fun e => by have := own_block_ge hown b e.symm; omega)⟩
/-- A row that is one's own lies as it lay. -/
theorem own_below {w w' : World} {base : Nat} {e : TypeId} {k : Nat} {v : Value} {n : Nat} {xs : List Value} (h : w.ownsRow base e k v n xs) (hb : Below w.heap.size w w') : w'.ownsRow base e k v n xs := by
  obtain ⟨h1, h2⟩ := h
  refine ⟨h1, ?_⟩
  rcases h2 with h2 | ⟨g, cap, cur, h2, hg, hcur, h3⟩
  · exact .inl h2
  · exact .inr ⟨g, cap, cur, h2, hg, (hb.block g (Array.getElem?_eq_some_iff.1 hcur).1).trans hcur, h3⟩
end Go.Proofs.YtbapdoicejakhaaGreat
