/- package state: free. package snap: Get. package state: operations and replies in memory; read. package state: read. -/
import Derived.Test.YtpgklnhkfgbpgaaGreatDoorM29
import Derived.Test.YtpgklnhkfgbpgaaGreatDoorM33
import Derived.Test.YtpgklnhkfgbpgaaGreatDoorM23
import Derived.Test.YtpgklnhkfgbpgaaGreatDoorM28
import Derived.Test.YtpgklnhkfgbpgaaGreatDoorM31
import Derived.Laws.Tables
namespace Go.Proofs.YtpgklnhkfgbpgaaGreatDoor
open Go.ChangeShapes Go.WideShapes Go.ChangeAt Go.RowKit
set_option linter.unusedVariables false
set_option linter.unusedSimpArgs false

theorem index_fd0 (x0 x1 x2 x3 x4 x5 x6 x7 : Value) (w : World) : (Instr.index 68 (.agg #[x0, x1, x2, x3, x4, x5, x6, x7]) (.int .i64 0)).run Tryz.prog w = .ok x0 w := by
  kernel_rfl
theorem index_fd1 (x0 x1 x2 x3 x4 x5 x6 x7 : Value) (w : World) : (Instr.index 68 (.agg #[x0, x1, x2, x3, x4, x5, x6, x7]) (.int .i64 1)).run Tryz.prog w = .ok x1 w := by
  kernel_rfl
theorem index_fd2 (x0 x1 x2 x3 x4 x5 x6 x7 : Value) (w : World) : (Instr.index 68 (.agg #[x0, x1, x2, x3, x4, x5, x6, x7]) (.int .i64 2)).run Tryz.prog w = .ok x2 w := by
  kernel_rfl
theorem index_fd3 (x0 x1 x2 x3 x4 x5 x6 x7 : Value) (w : World) : (Instr.index 68 (.agg #[x0, x1, x2, x3, x4, x5, x6, x7]) (.int .i64 3)).run Tryz.prog w = .ok x3 w := by
  kernel_rfl
theorem index_fd4 (x0 x1 x2 x3 x4 x5 x6 x7 : Value) (w : World) : (Instr.index 68 (.agg #[x0, x1, x2, x3, x4, x5, x6, x7]) (.int .i64 4)).run Tryz.prog w = .ok x4 w := by
  kernel_rfl
theorem index_fd5 (x0 x1 x2 x3 x4 x5 x6 x7 : Value) (w : World) : (Instr.index 68 (.agg #[x0, x1, x2, x3, x4, x5, x6, x7]) (.int .i64 5)).run Tryz.prog w = .ok x5 w := by
  kernel_rfl
theorem index_fd6 (x0 x1 x2 x3 x4 x5 x6 x7 : Value) (w : World) : (Instr.index 68 (.agg #[x0, x1, x2, x3, x4, x5, x6, x7]) (.int .i64 6)).run Tryz.prog w = .ok x6 w := by
  kernel_rfl
theorem index_fd7 (x0 x1 x2 x3 x4 x5 x6 x7 : Value) (w : World) : (Instr.index 68 (.agg #[x0, x1, x2, x3, x4, x5, x6, x7]) (.int .i64 7)).run Tryz.prog w = .ok x7 w := by
  kernel_rfl
theorem index_fd (v : Nat → Value) (n : Nat) (hn : n < 8) (w : World) : (Instr.index 68 (.agg #[v 0, v 1, v 2, v 3, v 4, v 5, v 6, v 7]) (.int .i64 n)).run Tryz.prog w = .ok (v n) w := by
  match n, hn with
  | 0, _ => exact index_fd0 _ _ _ _ _ _ _ _ w
  | 1, _ => exact index_fd1 _ _ _ _ _ _ _ _ w
  | 2, _ => exact index_fd2 _ _ _ _ _ _ _ _ w
  | 3, _ => exact index_fd3 _ _ _ _ _ _ _ _ w
  | 4, _ => exact index_fd4 _ _ _ _ _ _ _ _ w
  | 5, _ => exact index_fd5 _ _ _ _ _ _ _ _ w
  | 6, _ => exact index_fd6 _ _ _ _ _ _ _ _ w
  | 7, _ => exact index_fd7 _ _ _ _ _ _ _ _ w
section
variable {W w : World} {o : Mark} {i j k p : Nat} {M : StM}
set_option maxRecDepth 100000 in
set_option maxHeartbeats 4000000 in
theorem free_any (h : StateO o i j k w p M) : Calls Tryz.prog 80 #[ptr p] w fun e w' => ∃ n, e = .returned (.int .i64 n) ∧ FreeR M n ∧ w' = w := by
  obtain ⟨t, s, v, h1, h2, h3, h4⟩ := h.at_
  obtain ⟨c0, c1, c2, c3, c4⟩ := st_cells h1
  have e3 := c3 0 (by omega)
  have e4 := c3 1 (by omega)
  have e5 := c3 2 (by omega)
  have e6 := c3 3 (by omega)
  have e7 := c3 4 (by omega)
  have e8 := c3 5 (by omega)
  have e9 := c3 6 (by omega)
  have e10 := c3 7 (by omega)
  have H4 := Lib.hid h4
  clear h h1 h2 h3 h4 c3 c4
  go_enter Tryz.func80, Tryz.ntmps80
  go_wp2_with fail
  go_loopw [9] (fun iv wr => ∃ n : Nat, n ≤ 8 ∧ iv = .int .i64 n ∧ (∀ m, m < n → M.fds m ≠ none) ∧ wr = w) (fun iv _ => 8 - (intOf iv).toNat)
  case atStart => exact ⟨0, by omega, rfl, fun m hm => by omega, rfl⟩
  case round =>
    obtain ⟨n, hn, rfl, hno, rfl⟩ := hrel
    have HNO := Lib.hid hno
    clear hno
    by_cases hn8 : n < 8
    · have hd : decide ((n : Int) < 8) = true := by simp; omega
      have hix := index_fd v n hn8 wr
      have hf := H4.out n hn8
      have i0 : (0 : Int) ≤ n := by omega
      cases hfd : M.fds n with
      | none =>
        rw [hfd] at hf
        have hv : v n = .pointer none := hf
        rw [hv] at hix
        have HFD := Lib.hid hfd
        clear hf hv hfd
        go_wp2_with fail
        go_ret
        exact ⟨n, rfl, .inr ⟨n, hn8, rfl, HFD.out, HNO.out⟩, rfl⟩
      | some f =>
        rw [hfd] at hf
        obtain ⟨q, fa, fc, hv, _⟩ := hf
        rw [hv] at hix
        have HFD := Lib.hid hfd
        clear hv hfd
        go_wp2_with fail
        go_roundw
        case rel =>
          refine ⟨n + 1, by omega, by go_num, fun m hm => ?_, trivial⟩
          by_cases hmn : m = n
          · rw [hmn, HFD.out]; simp
          · exact HNO.out m (by omega)
        case measure => simp [intOf]; omega
    · obtain rfl : n = 8 := by omega
      go_wp2_with fail
      go_ret
      exact ⟨-1, rfl, .inl ⟨rfl, HNO.out⟩, rfl⟩
end
end Go.Proofs.YtpgklnhkfgbpgaaGreatDoor
namespace Go.Proofs.YtpgklnhkfgbpgaaGreatDoor
open Go.ChangeShapes Go.WideShapes Go.ChangeAt Go.RowKit
set_option linter.unusedVariables false
set_option linter.unusedSimpArgs false

def findM (S : SnM) (id : Int) : Option OneM := S.l.find? fun x => decide (x.id = id)
theorem FindR.none_ {S : SnM} {id : Int} (h : ∀ x ∈ S.l, x.id ≠ id) : findM S id = none := by
  unfold findM
  rw [List.find?_eq_none]
  intro x hx
  simpa using h x hx
theorem FindR.some_ : ∀ {l : List OneM} {id : Int} {k : Nat} {x : OneM}, l[k]? = some x → x.id = id → (∀ x' ∈ l.take k, x'.id ≠ id) → l.find? (fun x => decide (x.id = id)) = some x
  | [], _, k, x, h, _, _ => by simp at h
  | y :: r, id, 0, x, h, h1, _ => by
    have e : y = x := by simpa using h
    subst e
    simp [h1]
  | y :: r, id, k + 1, x, h, h1, h2 => by
    have hy : y.id ≠ id := h2 y (by simp)
    rw [List.find?_cons_of_neg (by simpa using hy)]
    exact FindR.some_ (k := k) (by simpa using h) h1 fun x' hx' => h2 x' (by simp [hx'])
def GetRet (o : Mark) (w : World) (S : SnM) (id : Int) (e : Ending) (w' : World) : Prop :=
  Below w.heap.size w w' ∧ ((findM S id = none ∧ e = .returned (.tuple #[.pointer none, .bool false])) ∨ ∃ x q, findM S id = some x ∧ e = .returned (.tuple #[ptr q, .bool true]) ∧ TreeO o 0 w' q x.t ∧ OkM x.t)
section
variable {W w : World} {o : Mark} {i s : Nat} {S : SnM}
set_option maxRecDepth 100000 in
set_option maxHeartbeats 4000000 in
theorem get_any (hS : SnapsO o i w s S) (hM : Marks W o w) (hl8 : S.l.length ≤ 1000) (id : Int) : Calls Tryz.prog 123 #[ptr s, .int .i64 id] w (GetRet o w S id) := by
  have HM := Lib.hid hM
  obtain ⟨v, la, lc, vals, h1, h2, h3, h4, h5, h6, h7, h8⟩ := hS.at_
  obtain ⟨a, c, rfl, hcap⟩ := own_form h4
  obtain ⟨-, -, hrow⟩ := RowAt.of_rown h4 (by unfold maxLen; omega)
  have HF := Lib.hid (find_any hS id hl8)
  have HH := Lib.hid h1
  have HON := Lib.hid h6
  have HROW := Lib.hid hrow
  obtain ⟨n, hn⟩ : ∃ n, n = S.l.length := ⟨_, rfl⟩
  have HN := Lib.hid hn
  rw [← hn] at hcap hl8
  clear hS hM h1 h2 h4 h5 h6 h7 h8 hrow hn
  go_enter Tryz.func123, Tryz.ntmps123
  go_wp2_with fail
  (with_reducible refine HF.out.mono ?_)
  rintro e w1 ⟨v, rfl, hf, hb1⟩
  have HB1 := Lib.hid hb1
  clear hb1
  rcases hf with ⟨rfl, hno⟩ | ⟨k, x, rfl, hx, hid, hno⟩
  · have HNO := Lib.hid hno
    clear hno
    go_wp2_with fail
    go_ret2
    exact ⟨HB1.out, .inl ⟨FindR.none_ HNO.out, rfl⟩⟩
  · have hkn : k < n := by rw [HN.out]; exact (List.getElem?_eq_some_iff.1 hx).1
    have HRW := HROW.out
    rw [← HN.out] at HRW
    obtain ⟨g, off, rfl, hgw, _, hcell⟩ := HRW.at_ (by omega)
    obtain ⟨ha, hcp, q, e0, e1, e2, e3, e4, e5, e6⟩ := HON.out.at_ hx
    have d2 : w1.cell? ⟨g, off + k * 3 + 2, none⟩ = some (ptr q) := (HB1.out.cell (p := ⟨g, off + k * 3 + 2, none⟩) hgw.2).trans ((hcell (k * 3 + 2) (by omega)).trans e2)
    have hbS := HB1.out.block s h3
    have c0 : w1.cell? ⟨s, 0, none⟩ = some (.slice (some ⟨g, off, none⟩) n c) := by
      have := hbS.trans HH.out
      rw [HN.out]
      simp [World.cell?, this]
    have HM1 := Lib.hid (HM.out.step (I := fun _ => False) (fun e => e) (Step.grow HM.out HB1.out))
    have HCP := Lib.hid (om_copy0 (e5.grow HB1.out) HM1.out e6)
    have HFX := Lib.hid (FindR.some_ hx hid hno)
    have HE6 := Lib.hid e6
    have hneg : ¬ ((k : Int) < 0) := by omega
    have i0 : (0 : Int) ≤ k := by omega
    have i1 : (k : Int) < n := by omega
    clear hx hid hno hcell e0 e1 e2 e3 e4 e5 e6 HRW hbS
    go_wp2_with fail
    (with_reducible refine HCP.out.mono ?_)
    rintro e w2 ⟨q2, rfl, hT2, hb2⟩
    have HT2 := Lib.hid hT2
    have HB2 := Lib.hid (HB1.out.trans (hb2.mono HB1.out.size))
    clear hT2 hb2
    go_wp2_with fail
    go_ret2
    exact ⟨HB2.out, .inr ⟨x, q2, HFX.out, rfl, HT2.out, HE6.out⟩⟩
end
end Go.Proofs.YtpgklnhkfgbpgaaGreatDoor
namespace Go.Proofs.YtpgklnhkfgbpgaaGreatDoor
open Go.ChangeShapes Go.WideShapes Go.ChangeAt Go.RowKit
set_option linter.unusedVariables false
set_option linter.unusedSimpArgs false

structure OpM where
  kind : Int
  path : List UInt8
  to_ : List UInt8
  fd : Int
  at_ : Int
  n : Int
  til : Int
  snap : Int
  data : List UInt8
def opC (x : OpM) (da : Option Addr) (dc : Nat) : Array Value := #[.int .i64 x.kind, .string (strOf x.path), .string (strOf x.to_), .int .i64 x.fd, .int .i64 x.at_, .int .i64 x.n, .int .u64 x.til, .int .i64 x.snap, .slice da x.data.length dc]
structure OpOk (x : OpM) : Prop where
  wk : (Lit.int .i64 x.kind).wf = true
  wf : (Lit.int .i64 x.fd).wf = true
  wa : (Lit.int .i64 x.at_).wf = true
  wn : (Lit.int .i64 x.n).wf = true
  ws : (Lit.int .i64 x.snap).wf = true
  wt : 0 ≤ x.til ∧ x.til ≤ 18446744073709551615
  wp : x.path.length < 4294967281
  wq : x.to_.length < 4294967281
  wd : x.data.length ≤ 1000000000
structure ReM where
  er : Int
  n : Int
  data : List UInt8
  names : List Nm
  node : Option (Int × ItM)
def noM (z : Int) : ReM := ⟨z, 0, [], [], none⟩
def reC (r : ReM) (da la : Option Addr) (dc lc : Nat) : Array Value := #[.int .i64 r.er, .int .i64 r.n, .slice da r.data.length dc, .slice la r.names.length lc,
  .int .i64 (match r.node with | some q => q.1 | none => 0), .int .i64 (match r.node with | some q => q.2.kind | none => 0), .int .i64 (match r.node with | some q => q.2.links | none => 0), .int .i64 (match r.node with | some q => (q.2.b.length : Int) | none => 0), .int .u64 (match r.node with | some q => q.2.til | none => 0), .bool (match r.node with | some q => q.2.closed | none => false)]
/-- A reply: its bytes and names are nobody's. -/
def ReplyAt (o : Mark) (w : World) (v : Value) (r : ReM) : Prop :=
  ∃ da la dc lc, v = .agg (reC r da la dc lc) ∧ r.data.length ≤ dc ∧ r.names.length ≤ lc ∧ RowAt (Free o w) w da r.data.length (r.data.map bv) ∧ StrsAt (Free o w) w la r.names.length (r.names.map strOf)
theorem strs_nil (S : Nat → Prop) (w : World) : StrsAt S w none 0 [] := ⟨RowAt.nil _ _ _, fun v hv => by cases hv⟩
theorem ReplyAt.no (o : Mark) (w : World) (z : Int) : ReplyAt o w (noV z) (noM z) :=
  ⟨none, none, 0, 0, rfl, Nat.le_refl _, Nat.le_refl _, RowAt.nil _ _ _, strs_nil _ _⟩
/-- A whole block is laid anew. -/
def RowSet (w : World) (g : Nat) (cs : Array Value) (t : TypeId) (w' : World) : Prop := w'.heap[g]? = some (.cells cs t (0, 0)) ∧ Keeps (fun b => b = g) w w' ∧ w'.heap.size = w.heap.size
theorem rowSet_set (w : World) (g : Nat) (old cs : Array Value) (t : TypeId) (hg : w.heap[g]? = some (.cells old t (0, 0))) : RowSet w g cs t (w.setRow g cs) := by
  have hz : (w.setRow g cs).heap.size = w.heap.size := by simp [World.setRow]
  exact ⟨setRow_heap w g old cs t _ hg, ⟨rfl, rfl, rfl, by omega, fun b _ hb => setRow_other w g b cs hb⟩, hz⟩
theorem wpList_store_rep {P : Program} {ops : Array Oper} {rest : List Oper} {o : Oper} {a : Act} {w : World} {Q : Exit → Act → World → Prop} (hgd : o.guard = none) (ty : TypeId) (x y : Operand) (ho : o.op = .store ty x y)
    (g : Nat) (cells : Array Value) (hx : a.eval x = .pointer (some ⟨g, 0, none⟩)) (hy : a.eval y = .agg cells)
    (old : Array Value) (hg : w.heap[g]? = some (.cells old ty (0, 0))) (hi : (P.info? ty).map (·.size) = some cells.size)
    (hold : old.size = cells.size) (h1 : cells.all (·.oneCell') = true)
    (h : ∀ w', RowSet w g cells ty w' → wpList P ops Q rest (a.put o.dst undef) w') : wpList P ops Q (o :: rest) a w :=
  wpList_store_row hgd ty x y ho g cells hx hy ty old hg hi hold h1 (h _ (rowSet_set w g old cells ty hg))
theorem RowSet.below {w0 w w' : World} {g : Nat} {cs : Array Value} {t : TypeId} (h : RowSet w g cs t w') (hb : Below w0.heap.size w0 w) (hg : w0.heap.size ≤ g) : Below w0.heap.size w0 w' := by
  obtain ⟨_, h2, h3⟩ := h
  exact ⟨h2.os.trans hb.os, h2.tape.trans hb.tape, h2.output.trans hb.output, Nat.le_trans hb.size h2.size, fun b hb' => (h2.block b (Nat.lt_of_lt_of_le hb' hb.size) (fun e : b = g => by omega)).trans (hb.block b hb')⟩
theorem reC_one (r : ReM) (da la : Option Addr) (dc lc : Nat) : (reC r da la dc lc).all (·.oneCell') = true := by simp [reC, Value.oneCell']
theorem ReplyAt.no_ (o : Mark) (w : World) (z : Int) : ReplyAt o w (.agg (reC (noM z) none none 0 0)) (noM z) :=
  ⟨none, none, 0, 0, rfl, Nat.le_refl _, Nat.le_refl _, RowAt.nil _ _ _, strs_nil _ _⟩
theorem repSize : (Tryz.prog.info? 33).map (·.size) = some 10 := by kernel_rfl
theorem ret_rep {fn : Func} {sl : Nat} {Q : Ending → World → Prop} {a : Act} {w : World} {b : Nat} {r : ReM} {da la : Option Addr} {dc lc : Nat} (hf : fn.results = #[.cell sl 33]) (hs : a.tmps.getD sl undef = .pointer (some ⟨b, 0, none⟩)) (hd : a.defers = []) (hg : w.heap[b]? = some (.cells (reC r da la dc lc) 33 (0, 0))) (hQ : Q (.returned (.agg (reC r da la dc lc))) w) :
    bodyPost Tryz.prog fn Q .ret a w :=
  bodyPost_ret (v := .agg (reC r da la dc lc)) (results_cell hf hs (run_loadVar_row w b 33 33 _ (0, 0) _ hg Tryz.underlying33 rfl repSize)) hd hQ
end Go.Proofs.YtpgklnhkfgbpgaaGreatDoor
namespace Go.Proofs.YtpgklnhkfgbpgaaGreatDoor
open Go.ChangeShapes Go.WideShapes Go.ChangeAt Go.RowKit
set_option linter.unusedVariables false
set_option linter.unusedSimpArgs false

set_option maxHeartbeats 1000000 in
theorem part_ok2 {S : Nat → Prop} (a : Option Addr) (l c : Nat) (bs : List UInt8) (A N : Nat) (w : World) (hl : l ≤ 1000000000) (hlc : l ≤ c) (hA : A ≤ 9223372036854775807) (hN : N ≤ 9223372036854775807) (hr : RowAt S w a l (bs.map bv)) :
    Calls Tryz.prog 78 #[.slice a l c, .int .i64 A, .int .i64 N] w (RetPart w ((bs.drop A).take N) 0) := by
  have z1 : (0 : Int) ≤ (A : Int) := by omega
  have z2 : (0 : Int) ≤ (N : Int) := by omega
  have z3 : decide ((A : Int) < 0) = false := by simp
  have z4 : decide ((N : Int) < 0) = false := by simp
  have HR := Lib.hid hr
  have hL : bs.length = l := by have := hr.length; simpa using this
  have HL := Lib.hid hL
  clear hr hL
  by_cases hcap : c = min A l
  · subst hcap
    go_enter Tryz.func78, Tryz.ntmps78
    go_wp2_with fail
    (with_reducible refine (bclone_row (S := S) _ _ _ ((bs.drop A).take N) _ (by omega) (part_row0 _ A N HL.out (by omega) (by omega))).mono ?_)
    rintro e w1 ⟨a1, n1, c1, rfl, hn1, hr1, hb1⟩
    have HR1 := Lib.hid hr1
    have HB1 := Lib.hid hb1
    clear hr1 hb1
    go_wp2_with fail
    go_ret2
    exact ⟨a1, n1, c1, rfl, hn1, HR1.out, HB1.out⟩
  · cases a with
    | none =>
      go_enter Tryz.func78, Tryz.ntmps78
      go_wp2_with fail
      (with_reducible refine (bclone_row (S := S) _ _ _ ((bs.drop A).take N) _ (by omega) (part_rowN A N HR.out (by omega))).mono ?_)
      rintro e w1 ⟨a1, n1, c1, rfl, hn1, hr1, hb1⟩
      have HR1 := Lib.hid hr1
      have HB1 := Lib.hid hb1
      clear hr1 hb1
      go_wp2_with fail
      go_ret2
      exact ⟨a1, n1, c1, rfl, hn1, HR1.out, HB1.out⟩
    | some ad =>
      go_enter Tryz.func78, Tryz.ntmps78
      go_wp2_with fail
      (with_reducible refine (bclone_row (S := S) _ _ _ ((bs.drop A).take N) _ (by omega) (part_rowS A N HR.out (by omega) (by omega))).mono ?_)
      rintro e w1 ⟨a1, n1, c1, rfl, hn1, hr1, hb1⟩
      have HR1 := Lib.hid hr1
      have HB1 := Lib.hid hb1
      clear hr1 hb1
      go_wp2_with fail
      go_ret2
      exact ⟨a1, n1, c1, rfl, hn1, HR1.out, HB1.out⟩
theorem part_any2 {S : Nat → Prop} (a : Option Addr) (l c : Nat) (bs : List UInt8) (at_ n : Int) (w : World) (hl : l ≤ 1000000000) (hlc : l ≤ c) (hA : (Lit.int .i64 at_).wf = true) (hN : (Lit.int .i64 n).wf = true) (hr : RowAt S w a l (bs.map bv)) :
    Calls Tryz.prog 78 #[.slice a l c, .int .i64 at_, .int .i64 n] w (RetPart w (partB bs at_ n) (partE at_ n)) := by
  simp only [Lit.wf, IntKind.min, IntKind.max, IntKind.signed, IntKind.bits, Bool.and_eq_true, decide_eq_true_eq] at hA hN
  by_cases h : at_ < 0 ∨ n < 0
  · unfold partB partE
    rw [if_pos h, if_pos h]
    exact part_bad a l c at_ n w h
  · unfold partB partE
    rw [if_neg h, if_neg h]
    have := part_ok2 (S := S) a l c bs at_.toNat n.toNat w hl hlc (by simp at hA; omega) (by simp at hN; omega) hr
    rw [show ((at_.toNat : Nat) : Int) = at_ by omega, show ((n.toNat : Nat) : Int) = n by omega] at this
    exact this
/-- What is read of a descriptor. -/
def sreadM (M : StM) (x : OpM) : ReM := match getFd M x.fd false with
  | none => noM 26
  | some f => ⟨partE x.at_ x.n, (partB f.b x.at_ x.n).length, partB f.b x.at_ x.n, [], none⟩
def RepRet (o : Mark) (r : ReM) (e : Ending) (w' : World) : Prop := ∃ v, e = .returned v ∧ ReplyAt o w' v r
section
variable {W w : World} {o : Mark} {i j k p : Nat} {M : StM}
set_option maxRecDepth 100000 in
set_option maxHeartbeats 4000000 in
theorem sread_any (h : StateO o i j k w p M) (hM : Marks W o w) (x : OpM) (hx : OpOk x) (hb : ∀ n f, M.fds n = some f → f.b.length ≤ 1000000000) (da : Option Addr) (dc : Nat) :
    Calls Tryz.prog 40 #[ptr p, .agg (opC x da dc)] w fun e w' => RepRet o (sreadM M x) e w' ∧ Below w.heap.size w w' := by
  have HM := Lib.hid hM
  have HW : Hid (∀ w' b, Below w.heap.size w w' → Calls Tryz.prog 83 #[ptr p, .int .i64 x.fd, .bool b] w' fun e w'' => w'' = w' ∧ FdRet o w' M x.fd b e) := fun w' b hb => fd_any (h.grow hM hb) x.fd b
  have HX := Lib.hid hx
  have HB := Lib.hid hb
  clear h hM hx hb
  unfold opC
  go_enter Tryz.func40, Tryz.ntmps40
  go_wp2_with fail
  obtain ⟨w2, hw2⟩ : ∃ w2, w2 = (w.alloc (.cells (opC x da dc) 36)).alloc (.cells (reC (noM 0) none none 0 0) 33) := ⟨_, rfl⟩
  have hb2 : Below w.heap.size w w2 := by rw [hw2]; exact (wall w _).trans ((wall _ _).mono (by simp))
  have HC2 : Hid (Calls Tryz.prog 83 #[ptr p, .int .i64 x.fd, .bool false] ((w.alloc (.cells (opC x da dc) 36)).alloc (.cells (reC (noM 0) none none 0 0) 33)) fun e w'' => w'' = w2 ∧ FdRet o w2 M x.fd false e) := by rw [← hw2]; exact HW.out w2 false hb2
  unfold opC reC noM at HC2
  dsimp only [List.length_nil] at HC2
  have hop : w2.heap[w.heap.size]? = some (.cells (opC x da dc) 36 (0, 0)) := by
    rw [hw2]
    exact ((wall _ _).block _ (by simp)).trans (MapKept.heap_alloc w _).1
  have hre : w2.heap[w.heap.size + 1]? = some (.cells (reC (noM 0) none none 0 0) 33 (0, 0)) := by
    rw [hw2]
    have := (MapKept.heap_alloc (w.alloc (.cells (opC x da dc) 36)) (.cells (reC (noM 0) none none 0 0) 33)).1
    rw [World.size_alloc] at this
    exact this
  (with_reducible refine HC2.out.mono ?_)
  rintro e w3 ⟨rfl, hfd⟩
  have HOP := Lib.hid hop
  have HRE := Lib.hid hre
  have HB2 := Lib.hid hb2
  clear hop hre hb2 hw2 HC2
  rcases hfd with ⟨hg, rfl⟩ | ⟨f, fv, hg, rfl, hfv⟩
  · have hr : sreadM M x = noM 26 := by unfold sreadM; rw [hg]
    have HRR := Lib.hid hr
    clear hg hr
    go_wp2_with fail
    (with_reducible refine (no_any _ _).mono ?_)
    rintro e w4 ⟨rfl, hb4⟩
    unfold noV
    have HB4 := Lib.hid (HB2.out.trans (hb4.mono HB2.out.size))
    have HR4 := Lib.hid ((hb4.block _ (Array.getElem?_eq_some_iff.1 HRE.out).1).trans HRE.out)
    go_wp2_with (refine wpList_store_rep (by rfl) 33 _ _ (by rfl) (w.heap.size + 1) (reC (noM 26) none none 0 0) (by rfl) (by rfl) _ HR4.out repSize rfl (reC_one _ _ _ _ _) ?_; intro w5 hs5; have HS5 := Lib.hid hs5; clear hs5)
    refine ret_rep rfl rfl rfl HS5.out.1 ⟨⟨_, rfl, ?_⟩, HS5.out.below HB4.out (by omega)⟩
    rw [HRR.out]
    exact ReplyAt.no_ _ _ _
  · have hr : sreadM M x = ⟨partE x.at_ x.n, (partB f.b x.at_ x.n).length, partB f.b x.at_ x.n, [], none⟩ := by unfold sreadM; rw [hg]
    have HRR := Lib.hid hr
    have hfb : f.b.length ≤ 1000000000 := by
      unfold getFd at hg
      split at hg
      · split at hg
        · split at hg
          · cases hg; exact HB.out _ _ (by assumption)
          · cases hg
        · cases hg
      · cases hg
    obtain ⟨q, fa, fc, rfl, hq0, hq1, hq2, hq3, hq4⟩ := hfv
    have HQ2 := Lib.hid hq2
    have HPA := Lib.hid (part_any2 fa f.b.length fc f.b x.at_ x.n w3.drew hfb hq3 HX.out.wa HX.out.wn (hq4.below (Below.refl _ _).drew (Nat.le_refl _)))
    have HK : Hid (∀ w' : World, Below w3.heap.size w3 w' → w'.cell? ⟨q, 2, none⟩ = some (.slice fa f.b.length fc) ∧ w'.cell? ⟨w.heap.size, 4, none⟩ = some (.int .i64 x.at_) ∧ w'.cell? ⟨w.heap.size, 5, none⟩ = some (.int .i64 x.n)) := fun w' hb => by
      have h1 := (hb.block q hq1).trans HQ2.out
      have h2 := (hb.block _ (Array.getElem?_eq_some_iff.1 HOP.out).1).trans HOP.out
      refine ⟨?_, ?_, ?_⟩ <;> simp [World.cell?, h1, h2, opC]
    clear hg hr hq0 hq2 hq3 hq4 hfb
    obtain ⟨pb, hpb⟩ : ∃ pb, pb = partB f.b x.at_ x.n := ⟨_, rfl⟩
    obtain ⟨pe, hpe⟩ : ∃ pe, pe = partE x.at_ x.n := ⟨_, rfl⟩
    rw [← hpb, ← hpe] at HPA
    rw [← hpb, ← hpe] at HRR
    clear hpb hpe
    go_wp2_with fail
    refine wp_region_noPanic ?_
    refine wp_region_held_drew (S := (fun w' => w'.cell? ⟨q, 2, none⟩ = some (.slice fa f.b.length fc) ∧ w'.cell? ⟨w.heap.size, 4, none⟩ = some (.int .i64 x.at_) ∧ w'.cell? ⟨w.heap.size, 5, none⟩ = some (.int .i64 x.n))) (by kernel_rfl) ?_ (fun hS => ?_)
    · exact HK.out _ (Below.refl _ _).drew
    refine wpAnyH_take (i := 0) (oi := ?oi1) (v := ?v1) ?hi1 (by kernel_rfl) (by kernel_rfl) (by kernel_rfl) ?hq1 (Or.inl ⟨?hw1, ?hy1⟩) hS ?rest1
    case hi1 => simp only [List.getElem?_toArray, List.getElem?_cons_succ, List.getElem?_cons_zero]; rfl
    case hq1 => exact fun _ _ _ h => h
    case hw1 => rfl
    case hy1 => intro w hSw; (try dsimp only at hSw); go_simp; (try with_reducible rfl)
    try simp only [Act.put, List.setIfInBounds_toArray, List.set_cons_zero, List.set_cons_succ]
    refine wpAnyH_take (i := 1) (oi := ?oi2) (v := ?v2) ?hi2 (by kernel_rfl) (by kernel_rfl) (by kernel_rfl) ?hq2 (Or.inl ⟨?hw2, ?hy2⟩) hS ?rest2
    case hi2 => simp only [List.getElem?_toArray, List.getElem?_cons_succ, List.getElem?_cons_zero]; rfl
    case hq2 => exact fun _ _ _ h => h
    case hw2 => rfl
    case hy2 => intro w hSw; (try dsimp only at hSw); go_simp; (try with_reducible rfl)
    try simp only [Act.put, List.setIfInBounds_toArray, List.set_cons_zero, List.set_cons_succ]
    refine wpAnyH_take (i := 2) (oi := ?oi3) (v := ?v3) ?hi3 (by kernel_rfl) (by kernel_rfl) (by kernel_rfl) ?hq3 (Or.inl ⟨?hw3, ?hy3⟩) hS ?rest3
    case hi3 => simp only [List.getElem?_toArray, List.getElem?_cons_succ, List.getElem?_cons_zero]; rfl
    case hq3 => exact fun _ _ _ h => h
    case hw3 => rfl
    case hy3 => intro w hSw; (try dsimp only at hSw); go_simp; (try with_reducible rfl)
    try simp only [Act.put, List.setIfInBounds_toArray, List.set_cons_zero, List.set_cons_succ]
    refine wpAnyH_take (i := 3) (oi := ?oi4) (v := ?v4) ?hi4 (by kernel_rfl) (by kernel_rfl) (by kernel_rfl) ?hq4 (Or.inl ⟨?hw4, ?hy4⟩) hS ?rest4
    case hi4 => simp only [List.getElem?_toArray, List.getElem?_cons_succ, List.getElem?_cons_zero]; rfl
    case hq4 => exact fun _ _ _ h => h
    case hw4 => rfl
    case hy4 => intro w hSw; (try dsimp only at hSw); go_simp; (try with_reducible rfl)
    try simp only [Act.put, List.setIfInBounds_toArray, List.set_cons_zero, List.set_cons_succ]
    refine wpAnyH_take (i := 4) (oi := ?oi5) (v := ?v5) ?hi5 (by kernel_rfl) (by kernel_rfl) (by kernel_rfl) ?hq5 (Or.inl ⟨?hw5, ?hy5⟩) hS ?rest5
    case hi5 => simp only [List.getElem?_toArray, List.getElem?_cons_succ, List.getElem?_cons_zero]; rfl
    case hq5 => exact fun _ _ _ h => h
    case hw5 => rfl
    case hy5 => intro w hSw; (try dsimp only at hSw); go_simp; (try with_reducible rfl)
    try simp only [Act.put, List.setIfInBounds_toArray, List.set_cons_zero, List.set_cons_succ]
    refine wpAnyH_take (i := 5) (oi := ?oi6) (v := ?v6) ?hi6 (by kernel_rfl) (by kernel_rfl) (by kernel_rfl) ?hq6 (Or.inl ⟨?hw6, ?hy6⟩) hS ?rest6
    case hi6 => simp only [List.getElem?_toArray, List.getElem?_cons_succ, List.getElem?_cons_zero]; rfl
    case hq6 => exact fun _ _ _ h => h
    case hw6 => rfl
    case hy6 => intro w hSw; (try dsimp only at hSw); go_simp; (try with_reducible rfl)
    try simp only [Act.put, List.setIfInBounds_toArray, List.set_cons_zero, List.set_cons_succ]
    refine wpAnyH_take (i := 6) (oi := ?oi7) (v := ?v7) ?hi7 (by kernel_rfl) (by kernel_rfl) (by kernel_rfl) ?hq7 (Or.inl ⟨?hw7, ?hy7⟩) hS ?rest7
    case hi7 => simp only [List.getElem?_toArray, List.getElem?_cons_succ, List.getElem?_cons_zero]; rfl
    case hq7 => exact fun _ _ _ h => h
    case hw7 => rfl
    case hy7 => intro w hSw; (try dsimp only at hSw); go_simp; (try with_reducible rfl)
    try simp only [Act.put, List.setIfInBounds_toArray, List.set_cons_zero, List.set_cons_succ]
    refine wpAnyH_take (i := 7) (oi := ?oi8) (v := ?v8) ?hi8 (by kernel_rfl) (by kernel_rfl) (by kernel_rfl) ?hq8 (Or.inl ⟨?hw8, ?hy8⟩) hS ?rest8
    case hi8 => simp only [List.getElem?_toArray, List.getElem?_cons_succ, List.getElem?_cons_zero]; rfl
    case hq8 => exact fun _ _ _ h => h
    case hw8 => rfl
    case hy8 => intro w hSw; (try dsimp only at hSw); go_simp; (try with_reducible rfl)
    try simp only [Act.put, List.setIfInBounds_toArray, List.set_cons_zero, List.set_cons_succ]
    refine wpAnyH_ready (rs := [8]) (by kernel_rfl) (by simp) ?_
    refine AllReadyH.cons (o := ?o9) ?ho9 (fun K hK => ?_) AllReadyH.nil
    case ho9 => simp only [List.getElem?_toArray, List.getElem?_cons_succ, List.getElem?_cons_zero]; rfl
    go_simp
    (with_reducible refine HPA.out.mono ?_)
    rintro e w4 ⟨a4, n4, c4, rfl, hn4, hr4, hb4⟩
    have hl4 : pb.length = n4 := by have := hr4.length; simpa using this
    subst hl4
    have hb43 : Below w3.heap.size w3 w4 := (Below.refl _ _).drew.trans hb4
    have HB4 := Lib.hid (HB2.out.trans (hb43.mono HB2.out.size))
    have HB43 := Lib.hid hb43
    have HR4 := Lib.hid ((hb43.block _ (Array.getElem?_eq_some_iff.1 HRE.out).1).trans HRE.out)
    have HN4 := Lib.hid hn4
    have HROW := Lib.hid hr4
    clear hn4 hr4 hb4 hb43
    go_wp2_with fail
    refine hK.out _ _ (HK.out _ HB43.out) (fun hS => ?_)
    clear hK K
    try simp only [Act.put, List.setIfInBounds_toArray, List.set_cons_zero, List.set_cons_succ]
    refine wpAnyH_take (i := 9) (oi := ?oi10) (v := ?v10) ?hi10 (by kernel_rfl) (by kernel_rfl) (by kernel_rfl) ?hq10 (Or.inl ⟨?hw10, ?hy10⟩) hS ?rest10
    case hi10 => simp only [List.getElem?_toArray, List.getElem?_cons_succ, List.getElem?_cons_zero]; rfl
    case hq10 => exact fun _ _ _ h => h
    case hw10 => rfl
    case hy10 => intro w hSw; (try dsimp only at hSw); go_simp; (try with_reducible rfl)
    try simp only [Act.put, List.setIfInBounds_toArray, List.set_cons_zero, List.set_cons_succ]
    refine wpAnyH_take (i := 10) (oi := ?oi11) (v := ?v11) ?hi11 (by kernel_rfl) (by kernel_rfl) (by kernel_rfl) ?hq11 (Or.inl ⟨?hw11, ?hy11⟩) hS ?rest11
    case hi11 => simp only [List.getElem?_toArray, List.getElem?_cons_succ, List.getElem?_cons_zero]; rfl
    case hq11 => exact fun _ _ _ h => h
    case hw11 => rfl
    case hy11 => intro w hSw; (try dsimp only at hSw); go_simp; (try with_reducible rfl)
    try simp only [Act.put, List.setIfInBounds_toArray, List.set_cons_zero, List.set_cons_succ]
    refine wpAnyH_take (i := 11) (oi := ?oi12) (v := ?v12) ?hi12 (by kernel_rfl) (by kernel_rfl) (by kernel_rfl) ?hq12 (Or.inl ⟨?hw12, ?hy12⟩) hS ?rest12
    case hi12 => simp only [List.getElem?_toArray, List.getElem?_cons_succ, List.getElem?_cons_zero]; rfl
    case hq12 => exact fun _ _ _ h => h
    case hw12 => rfl
    case hy12 => intro w hSw; (try dsimp only at hSw); go_simp; (try with_reducible rfl)
    try simp only [Act.put, List.setIfInBounds_toArray, List.set_cons_zero, List.set_cons_succ]
    refine wpAnyH_take (i := 12) (oi := ?oi13) (v := ?v13) ?hi13 (by kernel_rfl) (by kernel_rfl) (by kernel_rfl) ?hq13 (Or.inl ⟨?hw13, ?hy13⟩) hS ?rest13
    case hi13 => simp only [List.getElem?_toArray, List.getElem?_cons_succ, List.getElem?_cons_zero]; rfl
    case hq13 => exact fun _ _ _ h => h
    case hw13 => rfl
    case hy13 => intro w hSw; (try dsimp only at hSw); go_simp; (try with_reducible rfl)
    try simp only [Act.put, List.setIfInBounds_toArray, List.set_cons_zero, List.set_cons_succ]
    refine wpAnyH_take (i := 13) (oi := ?oi14) (v := ?v14) ?hi14 (by kernel_rfl) (by kernel_rfl) (by kernel_rfl) ?hq14 (Or.inl ⟨?hw14, ?hy14⟩) hS ?rest14
    case hi14 => simp only [List.getElem?_toArray, List.getElem?_cons_succ, List.getElem?_cons_zero]; rfl
    case hq14 => exact fun _ _ _ h => h
    case hw14 => rfl
    case hy14 => intro w hSw; (try dsimp only at hSw); go_simp; (try with_reducible rfl)
    try simp only [Act.put, List.setIfInBounds_toArray, List.set_cons_zero, List.set_cons_succ]
    refine wpAnyH_done (by kernel_rfl) ?_ _
    refine NoPanic.normal ?_
    clear hS
    go_wp2_with (refine wpList_store_rep (by rfl) 33 _ _ (by rfl) (w.heap.size + 1) (reC ⟨pe, pb.length, pb, [], none⟩ a4 none c4 0) (by rfl) (by rfl) _ HR4.out repSize rfl (reC_one _ _ _ _ _) ?_; intro w5 hs5; have HS5 := Lib.hid hs5; clear hs5)
    refine ret_rep rfl rfl rfl HS5.out.1 ⟨⟨_, rfl, ?_⟩, HS5.out.below HB4.out (by omega)⟩
    rw [HRR.out]
    have hs3 := HB2.out.size
    have hlt := (Array.getElem?_eq_some_iff.1 HRE.out).1
    refine ⟨a4, none, c4, 0, rfl, HN4.out, Nat.le_refl _, ?_, strs_nil _ _⟩
    refine HROW.out.move (by rw [HS5.out.2.2]; exact Nat.le_refl _) fun b hb hbw => ⟨⟨Decidable.byContradiction fun h0 => ?_, by rw [HS5.out.2.2]; exact hb.2⟩, HS5.out.2.1.block b hbw (fun e : b = w.heap.size + 1 => ?_)⟩
    · have := (HM.out.new b h0).2
      have h3 : w3.heap.size ≤ b := hb.1
      omega
    · have h3 : w3.heap.size ≤ b := hb.1
      omega
end
end Go.Proofs.YtpgklnhkfgbpgaaGreatDoor
