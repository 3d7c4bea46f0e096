/- tree: file, Node, Count, Look, settle, Seal, Keep. -/
import Derived.Test.YtcmlfaolooglfaaTreeMake
namespace Go.Proofs.Ytcmlfaolooglfaa
open Go.ChangeShapes Go.WideShapes Go.ChangeAt Go.RowKit
set_option linter.unusedVariables false
set_option linter.unusedSimpArgs false

section
variable {g : Nat → Own} {D : Nat → Prop} {p mb : Nat} {ib nb : Int → Nat} {T : TrM}
theorem ItemAt.frozen {w : World} {k : Int} {i n : Nat} {x : ItM} (h : ItemAt D w k i n x) (j : Nat) : w.frozen? ⟨i, j, none⟩ = false := by
  obtain ⟨⟨a, c, h1, _⟩, _⟩ := h
  simp [World.frozen?, h1]
theorem ItemAt.row {w : World} {k : Int} {i n : Nat} {x : ItM} (h : ItemAt D w k i n x) : ∃ a c, w.cell? ⟨i, 6, none⟩ = some (.slice a x.b.length c) ∧ CapOk x.b.length c ∧ RowAt D w a x.b.length (x.b.map bv) ∧ w.heap[i]? = some (.cells (itemCells k x a c n) 61 (0, 0)) := by
  obtain ⟨⟨a, c, h1, h2, h3⟩, _⟩ := h
  exact ⟨a, c, by simp only [World.cell?, h1]; rfl, h2, h3, h1⟩
/-- Fields of a node are turned. -/
theorem TreeAt.fields {w w' : World} (h : TreeAt g D w p mb ib nb T) {k : Int} {x : ItM} (hx : aget k T = some x) (f : ItM → ItM) (hb : (f x).b = x.b) (hn : (f x).names = x.names) (hk : (f x).kind = x.kind) (hK : Keeps (fun b => b = ib k) w w') (hs : w'.heap.size = w.heap.size)
    (hc : ∀ a c, w.heap[ib k]? = some (.cells (itemCells k x a c (nb k)) 61 (0, 0)) → w'.heap[ib k]? = some (.cells (itemCells k (f x) a c (nb k)) 61 (0, 0))) : TreeAt g D w' p mb ib nb (Go.Proofs.Ytcmlfaolooglfaa.amod k f T) := by
  have ti := h.tagi k x hx
  refine h.amod hx hk (fun _ h => h) (fun b hb => ⟨h.data b hb, by rw [hs]; exact h.dlow b hb⟩) (by omega) (fun b hbw h1 _ => hK.block b hbw (fun e => h1 (by rw [e]; exact ti))) ?_
  obtain ⟨⟨a, c, h1, h2, h3⟩, h4⟩ := h.item k x hx
  refine ⟨⟨a, c, hc a c h1, by rw [hb]; exact h2, by rw [hb]; exact h3.kept (by omega) fun b hD hbw => hK.block b hbw (fun e => by have := h.data b hD; rw [e, ti] at this; cases this)⟩, fun hk2 => ?_⟩
  have hk2' : x.kind = 2 := hk ▸ hk2
  have e : nameL (f x) = nameL x := by unfold nameL; rw [hn]
  rw [e]
  have tn := h.tagn k x hx hk2'
  exact (h4 hk2').kept (hK.block _ (h.low _ (by rw [tn]; simp)) (fun e => by rw [e, ti] at tn; cases tn))
theorem Keeps.set2 (w : World) (i j j' : Nat) (v v' : Value) : Keeps (fun b => b = i) w ((w.setCell ⟨i, j, none⟩ v).setCell ⟨i, j', none⟩ v') :=
  (Keeps.set_ w ⟨i, j, none⟩ v).trans (Keeps.set_ _ ⟨i, j', none⟩ v') (fun _ _ h => h)

theorem okInt_wf {k : Int} (h : (Lit.int .i64 k).wf = true) : intK.ok k := h

set_option maxHeartbeats 1000000 in
theorem file_err (id : Int) (k : Int) (hk : fileE T id = k) (hk0 : k ≠ 0) (w : World) (h : TreeAt g D w p mb ib nb T) (hid : (Lit.int .i64 id).wf = true) :
    Calls Try.prog 23 #[ptr p, .int .i64 id] w fun e w' => e = .returned (.tuple #[.pointer none, .int .i64 k]) ∧ w = w' := by
  obtain ⟨hc0, hpw, hmw⟩ := h.cell
  have hmap := Lib.hid h.map
  have hok : intK.ok id := hid
  unfold fileE at hk
  cases hx : aget id T with
  | none =>
    rw [hx] at hk
    simp only at hk
    subst hk
    have HG : Hid (aget id (T.map fun q => (q.1, ptr (ib q.1))) = none) := by rw [aget_ptr, hx]; rfl
    clear h hx hid hk0
    go_enter Try.func23, Try.ntmps23
    go_wp2_with (at_lookup; refine wpList_look_ok intK rfl _ _ 51 49 rfl Try.underlying51 (Try.zeroItem _) rfl hmap.out id rfl hok ?_; rw [HG.out])
    go_ret2
    exact ⟨rfl, rfl⟩
  | some x =>
    rw [hx] at hk
    simp only at hk
    by_cases hk2 : x.kind = 2
    · rw [if_pos hk2] at hk
      subst hk
      have HG : Hid (aget id (T.map fun q => (q.1, ptr (ib q.1))) = some (ptr (ib id))) := by rw [aget_ptr, hx]; rfl
      obtain ⟨c0, c1, c2, c3, c4, c5, c7, hiw⟩ := (h.item id x hx).cell
      rw [hk2] at c1
      clear h hx hid hk0 c7 hk2
      go_enter Try.func23, Try.ntmps23
      go_wp2_with (at_lookup; refine wpList_look_ok intK rfl _ _ 51 49 rfl Try.underlying51 (Try.zeroItem _) rfl hmap.out id rfl hok ?_; rw [HG.out])
      go_ret2
      exact ⟨rfl, rfl⟩
    · rw [if_neg hk2] at hk
      exact absurd hk.symm hk0
set_option maxHeartbeats 1000000 in
theorem file_ok (id : Int) {x : ItM} (hx : aget id T = some x) (hk2 : x.kind ≠ 2) (w : World) (h : TreeAt g D w p mb ib nb T) (hid : (Lit.int .i64 id).wf = true) :
    Calls Try.prog 23 #[ptr p, .int .i64 id] w fun e w' => e = .returned (.tuple #[ptr (ib id), .int .i64 0]) ∧ w = w' := by
  obtain ⟨hc0, hpw, hmw⟩ := h.cell
  have hmap := Lib.hid h.map
  have hok : intK.ok id := hid
  have HG : Hid (aget id (T.map fun q => (q.1, ptr (ib q.1))) = some (ptr (ib id))) := by rw [aget_ptr, hx]; rfl
  obtain ⟨c0, c1, c2, c3, c4, c5, c7, hiw⟩ := (h.item id x hx).cell
  have e1 : (x.kind == 2) = false := by simpa using hk2
  clear h hx hid c7 hk2
  go_enter Try.func23, Try.ntmps23
  go_wp2_with (at_lookup; refine wpList_look_ok intK rfl _ _ 51 49 rfl Try.underlying51 (Try.zeroItem _) rfl hmap.out id rfl hok ?_; rw [HG.out])
  go_ret2
  exact ⟨rfl, rfl⟩

/-- A node as a value. -/
def nodeV (k : Int) (x : ItM) : Value := .agg #[.int .i64 k, .int .i64 x.kind, .int .i64 x.links, .int .i64 x.b.length, .int .u64 x.til, .bool x.closed]
def nodeM (T : TrM) (id : Int) : Value := match aget id T with
  | some x => nodeV id x
  | none => .agg #[.int .i64 0, .int .i64 0, .int .i64 0, .int .i64 0, .int .u64 0, .bool false]
set_option maxHeartbeats 1000000 in
theorem node_any (id : Int) (w : World) (h : TreeAt g D w p mb ib nb T) (hid : (Lit.int .i64 id).wf = true) :
    Calls Try.prog 13 #[ptr p, .int .i64 id] w fun e w' => e = .returned (.tuple #[nodeM T id, .bool (aget id T).isSome]) ∧ Below w.heap.size w w' := by
  obtain ⟨hc0, hpw, hmw⟩ := h.cell
  have hok : intK.ok id := hid
  have hmap1 : ∀ o, MapAt intK (w.alloc o) mb (T.map fun q => (q.1, ptr (ib q.1))) := fun o => h.map.kept ((wall w o).block mb hmw)
  have hmap := Lib.hid hmap1
  unfold nodeM
  cases hx : aget id T with
  | none =>
    have HG : Hid (aget id (T.map fun q => (q.1, ptr (ib q.1))) = none) := by rw [aget_ptr, hx]; rfl
    clear h hx hid hmap1
    go_enter Try.func13, Try.ntmps13
    go_wp2_with (at_lookup; refine wpList_look_ok intK rfl _ _ 51 49 rfl Try.underlying51 (Try.zeroItem _) rfl (hmap.out _) id rfl hok ?_; rw [HG.out])
    exact bodyPost_ret (v := .tuple #[.agg #[.int .i64 0, .int .i64 0, .int .i64 0, .int .i64 0, .int .u64 0, .bool false], .bool false]) (by simp [results, Try.results13, go_sem]) rfl ⟨rfl, wall w _⟩
  | some x =>
    have HG : Hid (aget id (T.map fun q => (q.1, ptr (ib q.1))) = some (ptr (ib id))) := by rw [aget_ptr, hx]; rfl
    obtain ⟨c0, c1, c2, c3, c4, c5, c7, hiw⟩ := (h.item id x hx).cell
    clear h hx hid c7 hmap1
    unfold nodeV
    go_enter Try.func13, Try.ntmps13
    go_wp2_with (at_lookup; refine wpList_look_ok intK rfl _ _ 51 49 rfl Try.underlying51 (Try.zeroItem _) rfl (hmap.out _) id rfl hok ?_; rw [HG.out])
    exact bodyPost_ret (v := .tuple #[.agg #[.int .i64 id, .int .i64 x.kind, .int .i64 x.links, .int .i64 x.b.length, .int .u64 x.til, .bool x.closed], .bool true]) (by simp [results, Try.results13, go_sem]) rfl ⟨rfl, wall w _⟩
end
end Go.Proofs.Ytcmlfaolooglfaa
