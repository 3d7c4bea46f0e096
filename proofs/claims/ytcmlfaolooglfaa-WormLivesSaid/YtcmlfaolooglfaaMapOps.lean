/- Maps in memory: the laws at the operations. -/
import Derived.Test.YtcmlfaolooglfaaMapAt
import Derived.BigFrame
namespace Go.Proofs.Ytcmlfaolooglfaa
open Go.ChangeShapes Go.WideShapes Go.ChangeAt Go.RowKit
set_option linter.unusedVariables false
set_option linter.unusedSectionVars false

theorem Keeps.turned {w w' : World} {b : Nat} (h : w.mapTurned w' b) : Keeps (fun x => x = b) w w' := by
  have hg := h.grown
  exact ⟨hg.os, hg.tape, hg.output, hg.size, fun x hx hn => hg.block x hx (fun e => hn (by simpa using e))⟩
theorem Keeps.grown {w w' : World} {row : Option Nat} (hg : w.grownBy w' row) : Keeps (fun x => row = some x) w w' :=
  ⟨hg.os, hg.tape, hg.output, hg.size, fun x hx hn => hg.block x hx (fun e => hn e.symm)⟩
theorem turned_size {w w' : World} {b : Nat} (h : w.mapTurned w' b) : w'.heap.size = w.heap.size := by
  obtain ⟨es, clock, es', clock', hb, rfl⟩ := h
  simp [Go.ChangeMaps.setBlock]

section
variable {P : Program} {K : TypeId} {κ : Type} [DecidableEq κ] (F : KeyFor P K κ)
variable {w : World} {ops : Array Oper} {rest : List Oper} {o : Oper} {a : Act} {Q : Exit → Act → World → Prop}

theorem wpList_look (hg : Region.wanted o (yielded ops a.tmps) = true) (m x : Operand) (t e : TypeId) (hop : o.op = Op.lookup t m x false) (ht : P.underlying t = some (.map K e)) {z : Value} (hz : (zeroValue e).run P w = .ok z w)
    {b : Nat} {l : List (κ × Value)} (hm : a.eval m = .map (some b)) (hM : MapAt F w b l) (k : κ) (hx : a.eval x = F.val k) (hok : F.ok k)
    (h : wpList P ops Q rest (a.put o.dst ((aget k l).getD z)) w) : wpList P ops Q (o :: rest) a w := by
  refine BigFrame.wpList_want hg fun K' hK => ?_
  obtain ⟨v, ps, hrun, hv⟩ := World.ownsMap.lookup hM F.law ht hz (zd := .held z) (zp := []) rfl (F.of k hok)
  rw [toD_at] at hv
  have hv' : v = (aget k l).getD z := by
    simp only [rawE, Option.some.injEq, Prod.mk.injEq] at hv
    have := hv.1
    cases hg' : aget k l with
    | none => rw [hg'] at this; simpa using this
    | some u => rw [hg'] at this; simpa using this
  rw [hv'] at hrun
  unfold Oper.wp
  simp [execOp, hop, hm, hx, hrun, Result.andThen]
  exact hK _ _ h

theorem wpList_look_ok (hg : Region.wanted o (yielded ops a.tmps) = true) (m x : Operand) (t e : TypeId) (hop : o.op = Op.lookup t m x true) (ht : P.underlying t = some (.map K e)) {z : Value} (hz : (zeroValue e).run P w = .ok z w)
    {b : Nat} {l : List (κ × Value)} (hm : a.eval m = .map (some b)) (hM : MapAt F w b l) (k : κ) (hx : a.eval x = F.val k) (hok : F.ok k)
    (h : wpList P ops Q rest (a.put o.dst (.tuple #[(aget k l).getD z, .bool (aget k l).isSome])) w) : wpList P ops Q (o :: rest) a w := by
  refine BigFrame.wpList_want hg fun K' hK => ?_
  obtain ⟨v, ps, hrun, hv⟩ := World.ownsMap.look_ok hM F.law ht hz (zd := .held z) (zp := []) rfl (F.of k hok)
  rw [toD_at] at hv
  rw [toD_has] at hrun
  have hv' : v = (aget k l).getD z := by
    simp only [rawE, Option.some.injEq, Prod.mk.injEq] at hv
    have := hv.1
    cases hg' : aget k l with
    | none => rw [hg'] at this; simpa using this
    | some u => rw [hg'] at this; simpa using this
  rw [hv'] at hrun
  unfold Oper.wp
  simp [execOp, hop, hm, hx, hrun, Result.andThen]
  exact hK _ _ h

/-- A look-up in no map. -/
theorem wpList_look_nil (hg : Region.wanted o (yielded ops a.tmps) = true) (m x : Operand) (t e : TypeId) (c : Bool) (hop : o.op = Op.lookup t m x c) (ht : P.underlying t = some (.map K e)) {z : Value} (hz : (zeroValue e).run P w = .ok z w)
    (hm : a.eval m = .map none) (k : κ) (hx : a.eval x = F.val k) (hok : F.ok k)
    (h : wpList P ops Q rest (a.put o.dst (if c then .tuple #[z, .bool false] else z)) w) : wpList P ops Q (o :: rest) a w := by
  refine BigFrame.wpList_want hg fun K' hK => ?_
  have hrun := Go.Maps.look_nil c F.law ht hz (F.of k hok)
  unfold Oper.wp
  simp [execOp, hop, hm, hx, hrun, Result.andThen]
  exact hK _ _ h

theorem MapAt.store_run {w : World} {t e : TypeId} (ht : P.underlying t = some (.map K e)) {b : Nat} {l : List (κ × Value)} (hM : MapAt F w b l) (hn : l.length < maxLen) (k : κ) (val : Value) (hok : F.ok k) :
    ∃ w', (Instr.mapUpdate t (.map (some b)) (F.val k) val).run P w = .ok () w' ∧ MapAt F w' b (aput F.lt k val l) ∧ w.mapTurned w' b := by
  obtain ⟨w', hrun, r1, r2⟩ := World.ownsMap.store hM F.law ht hn (F.of k hok) (val := val) (d := .held val) (ps := []) rfl
  rw [toD_put] at r1
  exact ⟨w', hrun, MapAt.of_owns r1, r2⟩

theorem wpList_store (hg : Region.wanted o (yielded ops a.tmps) = true) (m x v : Operand) (t e : TypeId) (hop : o.op = Op.mapUpdate t m x v) (ht : P.underlying t = some (.map K e))
    {b : Nat} {l : List (κ × Value)} (hm : a.eval m = .map (some b)) (hM : MapAt F w b l) (hn : l.length < maxLen) (k : κ) (val : Value) (hx : a.eval x = F.val k) (hv : a.eval v = val) (hok : F.ok k)
    (h : ∀ w', MapAt F w' b (aput F.lt k val l) → w.mapTurned w' b → wpList P ops Q rest (a.put o.dst undef) w') : wpList P ops Q (o :: rest) a w := by
  refine BigFrame.wpList_want hg fun K' hK => ?_
  obtain ⟨w', hrun, r1, r2⟩ := World.ownsMap.store hM F.law ht hn (F.of k hok) (val := val) (d := .held val) (ps := []) rfl
  rw [toD_put] at r1
  unfold Oper.wp
  simp [execOp, hop, hm, hx, hv, hrun, Result.andThen]
  exact hK _ _ (h w' (MapAt.of_owns r1) r2)

theorem wpList_delete (hg : Region.wanted o (yielded ops a.tmps) = true) (m x : Operand) (t e : TypeId) (hop : o.op = Op.call { callee := Callee.builtin Builtin.delete, args := #[m, x], argTypes := #[t, K] }) (ht : P.underlying t = some (.map K e))
    {b : Nat} {l : List (κ × Value)} (hm : a.eval m = .map (some b)) (hM : MapAt F w b l) (k : κ) (hx : a.eval x = F.val k) (hok : F.ok k)
    (h : ∀ w', MapAt F w' b (adel k l) → w.mapTurned w' b → wpList P ops Q rest (a.put o.dst (.tuple #[])) w') : wpList P ops Q (o :: rest) a w := by
  refine BigFrame.wpList_want hg fun K' hK => ?_
  obtain ⟨w', hrun, r1, r2⟩ := World.ownsMap.drop hM F.law ht (F.of k hok) o.type
  rw [toD_del] at r1
  unfold Oper.wp
  simp [execOp, hop, resolve, invoke, builtin, hm, hx, hrun, Result.andThen]
  exact hK _ _ (h w' (MapAt.of_owns r1) r2)

theorem wpList_mlen (hg : Region.wanted o (yielded ops a.tmps) = true) (m : Operand) (t e : TypeId) (hop : o.op = Op.call { callee := Callee.builtin Builtin.len, args := #[m], argTypes := #[t] }) (ht : P.underlying t = some (.map K e))
    {b : Nat} {l : List (κ × Value)} (hm : a.eval m = .map (some b)) (hM : MapAt F w b l)
    (h : wpList P ops Q rest (a.put o.dst (.int .i64 l.length)) w) : wpList P ops Q (o :: rest) a w := by
  refine BigFrame.wpList_want hg fun K' hK => ?_
  have hrun := World.ownsMap.len hM ht o.type
  rw [toD_size] at hrun
  unfold Oper.wp
  simp [execOp, hop, resolve, invoke, builtin, hm, hrun, Result.andThen]
  exact hK _ _ h

theorem wpList_clear (hg : Region.wanted o (yielded ops a.tmps) = true) (m : Operand) (t e : TypeId) (hop : o.op = Op.call { callee := Callee.builtin Builtin.clear, args := #[m], argTypes := #[t] }) (ht : P.underlying t = some (.map K e))
    {b : Nat} {l : List (κ × Value)} (hm : a.eval m = .map (some b)) (hM : MapAt F w b l)
    (h : ∀ w', MapAt F w' b [] → w.mapTurned w' b → wpList P ops Q rest (a.put o.dst (.tuple #[])) w') : wpList P ops Q (o :: rest) a w := by
  refine BigFrame.wpList_want hg fun K' hK => ?_
  obtain ⟨es, clock, hb, hF, hs, hD⟩ := hM
  have hrun : (Builtin.clear_ #[t] o.type #[.map (some b)]).run P w = .ok (.tuple #[]) (Go.ChangeMaps.setBlock w b (.map #[] clock)) := by
    simp [Builtin.clear_, run_underlying ht, MapKept.run_getObj_map hb, MapKept.run_setObj_map _ hb, Result.andThen, Go.ChangeMaps.setBlock]
  unfold Oper.wp
  simp [execOp, hop, resolve, invoke, builtin, hm, hrun, Result.andThen]
  refine hK _ _ (h _ ⟨#[], clock, Go.ChangeMaps.heap_setBlock_same hb _, ⟨by simp, MapKept.stamped_empty _, by simp⟩, Nat.le_refl _, rfl⟩ ⟨es, clock, #[], clock, hb, rfl⟩)

/-- A range over the map in block b is under way, its iterator in block r. -/
def RangeAt (w : World) (b r : Nat) (l : List (κ × Value)) (left : κ → Bool) (cnt : Nat) : Prop :=
  ∃ L : Lit → Bool, w.ranges P K rawE b r l.length (toD F l) L cnt ∧ ∀ k, L (F.lit k) = left k

variable {F}
theorem RangeAt.map {b r cnt : Nat} {l : List (κ × Value)} {left : κ → Bool} (h : RangeAt F w b r l left cnt) : MapAt F w b l := by
  obtain ⟨L, h, _⟩ := h
  exact h.owns
theorem RangeAt.kept {w' : World} {b r cnt : Nat} {l : List (κ × Value)} {left : κ → Bool} (h : RangeAt F w b r l left cnt) (hb' : w'.heap[b]? = w.heap[b]?) (hr' : w'.heap[r]? = w.heap[r]?) : RangeAt F w' b r l left cnt := by
  obtain ⟨L, ⟨es, clock, since, seen, c0, hb, hF, hs, hD, hr, rest⟩, hL⟩ := h
  exact ⟨L, ⟨es, clock, since, seen, c0, hb'.trans hb, hF, hs, hD, hr'.trans hr, rest⟩, hL⟩
theorem RangeAt.lt {b r cnt : Nat} {l : List (κ × Value)} {left : κ → Bool} (h : RangeAt F w b r l left cnt) : b < w.heap.size ∧ r < w.heap.size ∧ r ≠ b := by
  obtain ⟨L, h, _⟩ := h
  exact ⟨h.owns.lt, h.lt, h.ne⟩
theorem RangeAt.measure {b r cnt : Nat} {l : List (κ × Value)} {left : κ → Bool} (h : RangeAt F w b r l left cnt) : w.rangeLeft b r = cnt := by
  obtain ⟨L, h, _⟩ := h
  exact h.left_eq
/-- What is left is in the map. -/
theorem RangeAt.sub {b r cnt : Nat} {l : List (κ × Value)} {left : κ → Bool} (h : RangeAt F w b r l left cnt) {k : κ} (hk : left k = true) : ∃ v, aget k l = some v := by
  obtain ⟨L, ⟨es, clock, since, seen, c0, hb, hF, hs, hD, hr, _, _, _, hl2, _⟩, hL⟩ := h
  rw [← hL] at hk
  obtain ⟨x, hx, e⟩ := hl2 _ hk
  have h1 : (WideElems.rg P K rawE x) ∈ (es.toList.map (WideElems.rg P K rawE)).foldr DataW.insert [] := (sorted_perm _).mem_iff.2 (List.mem_map.2 ⟨x, hx, rfl⟩)
  simp only [toD, DataW.map.injEq] at hD
  rw [← hD] at h1
  obtain ⟨p, hp, e1⟩ := List.mem_map.1 h1
  have : F.lit p.1 = F.lit k := by rw [← e, ← e1]
  have hpk : p.1 = k := by
    have h2 := F.same p.1 k
    rw [this, WideAt.sameKey_self (F.isKey _)] at h2
    simpa using h2.symm
  cases hg : aget k l with
  | some v => exact ⟨v, rfl⟩
  | none => exact absurd hpk (aget_none.1 hg p hp)

variable (F)
theorem wpList_range (hg : o.guard = none) (m : Operand) (t e : TypeId) (hop : o.op = Op.range t m) (ht : P.underlying t = some (.map K e)) {b : Nat} {l : List (κ × Value)} (hm : a.eval m = .map (some b)) (hM : MapAt F w b l)
    (h : ∀ w', RangeAt F w' b w.heap.size l (fun k => (aget k l).isSome) l.length → Below w.heap.size w w' → w'.heap.size = w.heap.size + 1 → wpList P ops Q rest (a.put o.dst (.pointer (some ⟨w.heap.size, 0, none⟩))) w') : wpList P ops Q (o :: rest) a w := by
  refine wpList_range_own w hg m t hop K e F.law ht rawE b l.length (toD F l) hm hM fun w' h1 h2 h3 => ?_
  rw [toD_size] at h1
  exact h w' ⟨_, h1, fun k => toD_has F k l⟩ ⟨h2.os, h2.tape, h2.output, h2.size, fun i hi => h2.block i hi (by simp)⟩ h3

theorem wpList_next (hg : o.guard = none) (it : Operand) (hop : o.op = Op.next it false) {b r cnt : Nat} {l : List (κ × Value)} {left : κ → Bool} (hit : a.eval it = .pointer (some ⟨r, 0, none⟩)) (hR : RangeAt F w b r l left cnt)
    (hDone : (∀ k, left k = false) → wpList P ops Q rest (a.put o.dst (.tuple #[.bool false])) w)
    (hMore : ∀ (k : κ) (v : Value) (w' : World) (cnt' : Nat), F.ok k → left k = true → aget k l = some v → RangeAt F w' b r l (fun z => left z && !decide (z = k)) cnt' → cnt' < cnt → Keeps (fun x => x = r) w w' → w'.heap.size = w.heap.size →
      (Instr.entry (.pointer (some ⟨r, 0, none⟩))).run P w' = .ok (.tuple #[F.val k, v]) w' → wpList P ops Q rest (a.put o.dst (.tuple #[.bool true, F.val k, v])) w') :
    wpList P ops Q (o :: rest) a w := by
  have hsub := fun k hk => RangeAt.sub hR (k := k) hk
  obtain ⟨L, hR, hL⟩ := hR
  refine wpList_next_ranges w hg it hop K F.law rawE F.val (fun v : Value => v) (fun key kl hk => by obtain ⟨x, e, _⟩ := F.inv key kl hk; exact ⟨x, e⟩) (fun v y _ => ⟨v, rfl⟩) b r l.length (toD F l) L cnt hit hR
    (fun _ h0 => hDone (fun k => by rw [← hL]; exact h0 _)) ?_
  intro x c kl y w' cnt' hkey hleft hc hat hrg hlt hgr hsz hen
  obtain ⟨x', ex, rfl, hok⟩ := F.inv _ _ hkey
  have hl' : left x' = true := by rw [← hL]; exact hleft
  obtain ⟨v, hv⟩ := hsub x' hl'
  have h1 := hat .nil
  rw [toD_at, hv] at h1
  simp only [rawE, Option.some.injEq] at hc
  rw [← hc] at h1
  simp only [DataW.held.injEq] at h1
  subst h1
  rw [ex] at hen ⊢
  refine hMore x' v w' cnt' hok hl' hv ⟨_, hrg, fun k => ?_⟩ hlt ((Keeps.grown hgr).mono fun z _ hz => by simpa using hz.symm) hsz hen
  show (L (F.lit k) && !(F.lit k).sameKey (F.lit x')) = _
  rw [hL, F.same]
end
end Go.Proofs.Ytcmlfaolooglfaa
