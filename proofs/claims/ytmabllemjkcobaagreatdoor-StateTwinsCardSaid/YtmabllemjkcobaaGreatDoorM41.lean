/- A law's own state: replies in variables; literals of bytes. permafrostlaw14.known. permafrostbook.Within. permafrostkeep.Name. permafrostkeep.Cut. -/
import Derived.Test.YtmabllemjkcobaaGreatDoorM40
import Derived.Lib.SlBytesConst
import Derived.Test.YtmabllemjkcobaaGreatDoorM01
import Derived.Test.YtmabllemjkcobaaGreatDoorM04
namespace Go.Proofs.YtmabllemjkcobaaGreatDoor
open Go.ChangeShapes Go.WideShapes Go.ChangeAt Go.RowKit
set_option linter.unusedVariables false
set_option linter.unusedSimpArgs false

/-- An operation as it is spelled. -/
abbrev opA (kind : Int) (path to_ : ByteArray) (fd at_ n til snap : Int) (da : Option Addr) (dl dc : Nat) : Value := .agg #[.int .i64 kind, .string path, .string to_, .int .i64 fd, .int .i64 at_, .int .i64 n, .int .u64 til, .int .i64 snap, .slice da dl dc]
theorem st_doA {W w : World} {o : Mark} {i p : Nat} {c : Int} {M : StM} {S : Nat → Prop} (h : StW W o i w p c M) (hi : 0 < i) (hc : c ≤ 1000000000) (x : OpM) (hx : OpOk x) (da : Option Addr) (dc : Nat) (hda : RowAt S w da x.data.length (x.data.map bv)) (m : Int) (hm : W.cell? ⟨0, 0, none⟩ = some (.int .i64 m)) (v : Value) (hv : v = .agg (opC x da dc)) :
    Calls Tryz.prog 12 #[ptr p, v] w (DoW W o i w p c M x) := by rw [hv]; exact st_do h hi hc x hx da dc hda m hm
/-- Where the model's answer is known. -/
def DoE (W : World) (o : Mark) (i : Nat) (w : World) (p : Nat) (c : Int) (r : ReM) (M' : StM) (e : Ending) (w' : World) : Prop :=
  ∃ o', RepRet o' r e w' ∧ Step o (Five i) w o' w' ∧ StW W o' i w' p (c + 1) M'
theorem st_doE {W w : World} {o : Mark} {i p : Nat} {c : Int} {M M' : StM} {r : ReM} {S : Nat → Prop} (h : StW W o i w p c M) (hi : 0 < i) (hc : c ≤ 1000000000) (x : OpM) (hx : OpOk x) (da : Option Addr) (dc : Nat) (hda : RowAt S w da x.data.length (x.data.map bv)) (m : Int) (hm : W.cell? ⟨0, 0, none⟩ = some (.int .i64 m)) (v : Value) (hv : v = .agg (opC x da dc)) (he : sdoM M x = (r, M')) :
    Calls Tryz.prog 12 #[ptr p, v] w (DoE W o i w p c r M') := by
  refine (st_doA h hi hc x hx da dc hda m hm v hv).mono ?_
  rintro e w' ⟨o', h1, h2, h3⟩
  rw [he] at h1 h3
  exact ⟨o', h1, h2, h3⟩
theorem st_doE0 {W w : World} {o : Mark} {i p : Nat} {c : Int} {M M' : StM} {r : ReM} (h : StW W o i w p c M) (hi : 0 < i) (hc : c ≤ 1000000000) (x : OpM) (hx : OpOk x) (m : Int) (hm : W.cell? ⟨0, 0, none⟩ = some (.int .i64 m)) (v : Value) (hv : v = .agg (opC x none 0)) (hd : x.data = []) (he : sdoM M x = (r, M')) :
    Calls Tryz.prog 12 #[ptr p, v] w (DoE W o i w p c r M') := st_doE (S := fun _ => True) h hi hc x hx none 0 (by rw [hd]; exact RowAt.nil _ _ _) m hm v hv he
/-- A variable that holds a reply. -/
structure RepV (o : Mark) (w : World) (g : Nat) (r : ReM) (da la : Option Addr) (dc lc : Nat) : Prop where
  own : o g = 0
  low : g < w.heap.size
  at_ : w.heap[g]? = some (.cells (reC r da la dc lc) 36 (0, 0))
  dcap : r.data.length ≤ dc
  lcap : r.names.length ≤ lc
  data : RowAt (Free o w) w da r.data.length (r.data.map bv)
  names : StrsAt (Free o w) w la r.names.length (r.names.map strOf)
abbrev reZ : Array Value := #[.int .i64 0, .int .i64 0, .slice none 0 0, .slice none 0 0, .int .i64 0, .int .i64 0, .int .i64 0, .int .i64 0, .int .u64 0, .bool false]
section
variable {W w w' w4 w5 : World} {o o' : Mark} {g : Nat} {r : ReM} {da la : Option Addr} {dc lc : Nat}
theorem RepV.step {I : Nat → Prop} (h : RepV o w g r da la dc lc) (h0 : ¬ I 0) (hs : Step o I w o' w') : RepV o' w' g r da la dc lc :=
  ⟨(hs.old g h.low).trans h.own, Nat.lt_of_lt_of_le h.low hs.keep.size, (hs.block h.low (by rw [h.own]; exact h0)).trans h.at_, h.dcap, h.lcap, h.data.free h0 hs, ⟨h.names.row.free h0 hs, h.names.short⟩⟩
theorem RepV.five {i : Nat} (h : RepV o w g r da la dc lc) (hi : 0 < i) (hs : Step o (Five i) w o' w') : RepV o' w' g r da la dc lc := h.step (fun e => by have := e.1; omega) hs
theorem RepV.grow (h : RepV o w g r da la dc lc) (hM : Marks W o w) (hb : Below w.heap.size w w') : RepV o w' g r da la dc lc := h.step (I := fun _ => False) (fun e => e) (Step.grow hM hb)
/-- A reply is laid into a new variable. -/
theorem rep_var (hM : Marks W o w4) (h1 : r.data.length ≤ dc) (h2 : r.names.length ≤ lc) (h3 : RowAt (Free o w4) w4 da r.data.length (r.data.map bv)) (h4 : StrsAt (Free o w4) w4 la r.names.length (r.names.map strOf))
    (hs : RowSet (w4.alloc (.cells reZ 36)) w4.heap.size (reC r da la dc lc) 36 w5) : RepV o w5 w4.heap.size r da la dc lc ∧ Below w4.heap.size w4 w5 := by
  have hb := hs.below (wall w4 (.cells reZ 36)) (Nat.le_refl _)
  have hlt : w4.heap.size < w5.heap.size := (Array.getElem?_eq_some_iff.1 hs.1).1
  have hst : Step o (fun _ => False) w4 o w5 := Step.grow hM hb
  exact ⟨⟨Decidable.byContradiction fun h0 => by have := (hM.new _ h0).2; omega, hlt, hs.1, h1, h2, h3.free (fun e => e) hst, ⟨h4.row.free (fun e => e) hst, h4.short⟩⟩, hb⟩
theorem RepV.er (h : RepV o w g r da la dc lc) : w.cell? ⟨g, 0, none⟩ = some (.int .i64 r.er) := by simp [World.cell?, h.at_, reC]
theorem RepV.n (h : RepV o w g r da la dc lc) : w.cell? ⟨g, 1, none⟩ = some (.int .i64 r.n) := by simp [World.cell?, h.at_, reC]
theorem new_rowM (vs : List Value) (t : TypeId) (m : Nat × Nat) (hm : vs.length ≤ maxLen) : RowAt (fun x => x = w.heap.size) (w.alloc (.cells vs.toArray t m)) (some ⟨w.heap.size, 0, none⟩) vs.length vs := by
  refine ⟨rfl, hm, fun _ => ⟨_, 0, rfl, rfl, by simp, fun i hi => ?_⟩⟩
  have hh : (w.alloc (.cells vs.toArray t m)).heap[w.heap.size]? = some (.cells vs.toArray t m) := (MapKept.heap_alloc w _).1
  simp only [World.cell?, hh]
  simp
end
/-- A variable that holds an operation; q marks it. -/
structure OpV (q : Nat) (o : Mark) (w : World) (g : Nat) (x : OpM) (da : Option Addr) (dc : Nat) : Prop where
  own : o g = q
  low : g < w.heap.size
  at_ : w.heap[g]? = some (.cells (opC x da dc) 28 (0, 0))
section
variable {W w w' w4 w5 : World} {o o' : Mark} {q g i p : Nat} {c : Int} {x : OpM} {M : StM} {da : Option Addr} {dc : Nat}
theorem OpV.step {I : Nat → Prop} (h : OpV q o w g x da dc) (h0 : ¬ I q) (hs : Step o I w o' w') : OpV q o' w' g x da dc :=
  ⟨(hs.old g h.low).trans h.own, Nat.lt_of_lt_of_le h.low hs.keep.size, (hs.block h.low (by rw [h.own]; exact h0)).trans h.at_⟩
theorem OpV.five (h : OpV q o w g x da dc) (hq : q < i ∨ i + 4 < q) (hs : Step o (Five i) w o' w') : OpV q o' w' g x da dc := h.step (fun e => by have := e.1; have := e.2; omega) hs
theorem OpV.grow (h : OpV q o w g x da dc) (hM : Marks W o w) (hb : Below w.heap.size w w') : OpV q o w' g x da dc := h.step (I := fun _ => False) (fun e => e) (Step.grow hM hb)
theorem OpV.cells (h : OpV q o w g x da dc) : w.cell? ⟨g, 0, none⟩ = some (.int .i64 x.kind) ∧ w.cell? ⟨g, 1, none⟩ = some (.string (strOf x.path)) ∧ w.cell? ⟨g, 2, none⟩ = some (.string (strOf x.to_)) ∧ w.cell? ⟨g, 3, none⟩ = some (.int .i64 x.fd) ∧ w.cell? ⟨g, 4, none⟩ = some (.int .i64 x.at_) ∧ w.cell? ⟨g, 5, none⟩ = some (.int .i64 x.n) ∧ w.cell? ⟨g, 6, none⟩ = some (.int .u64 x.til) ∧ w.cell? ⟨g, 7, none⟩ = some (.int .i64 x.snap) ∧ w.cell? ⟨g, 8, none⟩ = some (.slice da x.data.length dc) ∧ w.frozen? ⟨g, 6, none⟩ = false := by
  have := h.at_
  unfold opC at this
  refine ⟨?_, ?_, ?_, ?_, ?_, ?_, ?_, ?_, ?_, ?_⟩ <;> simp [World.cell?, World.frozen?, this]
abbrev opZ : Array Value := #[.int .i64 0, .string ⟨#[]⟩, .string ⟨#[]⟩, .int .i64 0, .int .i64 0, .int .i64 0, .int .u64 0, .int .i64 0, .slice none 0 0]
theorem op_var (hM : Marks W o w4) (q : Nat) (hs : RowSet (w4.alloc (.cells opZ 28)) w4.heap.size (opC x da dc) 28 w5) : ∃ o', Step o (fun m => m = q) w4 o' w5 ∧ OpV q o' w5 w4.heap.size x da dc := by
  have hb := hs.below (wall w4 (.cells opZ 28)) (Nat.le_refl _)
  have hlt : w4.heap.size < w5.heap.size := (Array.getElem?_eq_some_iff.1 hs.1).1
  obtain ⟨o', hs', h1, h2⟩ := mark_new hM q (fun b => b = w4.heap.size) (w' := w5) (fun b hb => by subst hb; exact ⟨Nat.le_refl _, hlt⟩) hb
  exact ⟨o', hs', h1 _ rfl, hlt, hs.1⟩
theorem StW.one (h : StW W o i w p c M) (hq : q ≠ 0 ∧ (q < i ∨ i + 2 < q)) (hs : Step o (fun m => m = q) w o' w') : StW W o' i w' p c M :=
  ⟨h.st.step (fun e => by omega) (fun e => by omega) (fun e => by omega) (fun e => by omega) hs, h.marks.step (fun e => by omega) hs, h.ok⟩
theorem RepV.one {r : ReM} {la : Option Addr} {lc : Nat} (h : RepV o w g r da la dc lc) (hq : q ≠ 0) (hs : Step o (fun m => m = q) w o' w') : RepV o' w' g r da la dc lc := h.step (fun e => hq e.symm) hs
end
end Go.Proofs.YtmabllemjkcobaaGreatDoor
namespace Go.Proofs.YtmabllemjkcobaaGreatDoor
open Go.ChangeShapes Go.WideShapes Go.ChangeAt Go.RowKit
set_option linter.unusedVariables false
set_option linter.unusedSimpArgs false

def k14a : OpM := ⟨1, [47, 97], [], 0, 0, 0, 0, 0, []⟩
def k14b : OpM := ⟨5, [], [], 0, 0, 0, 0, 0, [120, 121, 122]⟩
def k14c : OpM := ⟨6, [], [], 0, 0, 0, 9, 0, []⟩
def k14d : OpM := ⟨8, [47, 97], [], 0, 0, 0, 0, 0, []⟩
def k14r1 : ReM := (sdoM newSt k14a).1
def k14s1 : StM := (sdoM newSt k14a).2
def k14r2 : ReM := (sdoM k14s1 k14b).1
def k14s2 : StM := (sdoM k14s1 k14b).2
def k14r3 : ReM := (sdoM k14s2 k14c).1
def k14s3 : StM := (sdoM k14s2 k14c).2
def k14r4 : ReM := (sdoM k14s3 k14d).1
def k14s4 : StM := (sdoM k14s3 k14d).2
theorem k14e1 : sdoM newSt k14a = (k14r1, k14s1) := rfl
theorem k14e2 : sdoM k14s1 k14b = (k14r2, k14s2) := rfl
theorem k14e3 : sdoM k14s2 k14c = (k14r3, k14s3) := rfl
theorem k14e4 : sdoM k14s3 k14d = (k14r4, k14s4) := rfl
theorem k14f1 : k14r1.er = 0 := by kernel_rfl
theorem k14f2 : k14r1.n = 0 := by kernel_rfl
theorem k14f3 : k14r2.n = 3 := by kernel_rfl
theorem k14f4 : k14r3.er = 0 := by kernel_rfl
theorem k14f5 : k14r4.er = 28 := by kernel_rfl
theorem k14_ok (x : OpM) (h : x = k14a ∨ x = k14b ∨ x = k14c ∨ x = k14d) : OpOk x := by
  rcases h with rfl | rfl | rfl | rfl <;> exact opOk_small (by decide) (by decide) (by decide) (by decide) (by decide) (by decide) (by decide) (by decide) (by decide)
set_option maxRecDepth 100000 in
set_option maxHeartbeats 16000000 in
theorem known14_any (w : World) (m : Int) (hm : w.cell? ⟨0, 0, none⟩ = some (.int .i64 m)) : Calls Tryz.prog 20 #[] w fun e w' => e = .returned (.bool true) ∧ Below w.heap.size w w' := by
  have kc := fun (w : World) (C : Array Value) (n c : Nat) => Lib.run_convert_bytes_const (P := Tryz.prog) w 26 5 C n c Tryz.underlying26 Tryz.underlying5
  have HM := Lib.hid hm
  clear hm
  go_enter Tryz.func20, Tryz.ntmps20
  go_wp2_with fail
  (with_reducible refine (st_new (i := 1) (marks0 w) (by omega)).mono ?_)
  rintro e w1 ⟨ps, o1, rfl, hs1, hS1⟩
  have HS1 := Lib.hid hS1
  clear hs1 hS1
  have HC2 := Lib.hid (st_doE0 HS1.out (by omega) (by omega) k14a (k14_ok _ (by simp)) m HM.out (opA 1 ⟨#[47, 97]⟩ ⟨#[]⟩ 0 0 0 0 0 none 0 0) rfl rfl k14e1)
  go_wp2_with fail
  (with_reducible refine HC2.out.mono ?_)
  rintro e w2 ⟨o2, ⟨y2, rfl, da2, la2, dc2, lc2, rfl, p1, p2, p3, p4⟩, hs2, hS2⟩
  have HS2 := Lib.hid hS2
  have HR2 := Lib.hid (And.intro p1 (And.intro p2 (And.intro p3 p4)))
  clear hs2 hS2 p1 p2 p3 p4 HC2 HS1
  go_wp2_with (refine wpList_store_rep (by rfl) 36 _ _ (by rfl) _ (reC k14r1 da2 la2 dc2 lc2) (by rfl) (by rfl) _ (MapKept.heap_alloc _ _).1 repSize rfl (reC_one _ _ _ _ _) ?_; intro w3 hs3; have HW3 := Lib.hid hs3; clear hs3; obtain ⟨hv3, hb3⟩ := rep_var HS2.out.marks HR2.out.1 HR2.out.2.1 HR2.out.2.2.1 HR2.out.2.2.2 HW3.out; have HV3 := Lib.hid hv3; have HS4 := Lib.hid (HS2.out.grow hb3); clear HS2; clear hv3 hb3 HW3 HR2)
  have hb5 : Below w3.heap.size w3 (w3.alloc (.cells #[.int .u8 120, .int .u8 121, .int .u8 122] 5 (3, 4))) := wall w3 _
  have HV6 := Lib.hid (HV3.out.grow HS4.out.marks hb5)
  clear HV3
  have HS7 := Lib.hid (HS4.out.grow hb5)
  clear HS4
  clear hb5
  have HC8 := Lib.hid (st_doE HS7.out (by omega) (by omega) k14b (k14_ok _ (by simp)) (some ⟨w3.heap.size, 0, none⟩) 3 (new_rowM (([120, 121, 122] : List UInt8).map bv) _ (3, 4) (by decide)) m HM.out (opA 5 ⟨#[]⟩ ⟨#[]⟩ 0 0 0 0 0 (some ⟨w3.heap.size, 0, none⟩) 3 3) rfl k14e2)
  go_wp2_with fail
  (with_reducible refine HC8.out.mono ?_)
  rintro e w8 ⟨o8, ⟨y8, rfl, da8, la8, dc8, lc8, rfl, p1, p2, p3, p4⟩, hs8, hS8⟩
  have HS8 := Lib.hid hS8
  have HR8 := Lib.hid (And.intro p1 (And.intro p2 (And.intro p3 p4)))
  have HV9 := Lib.hid (HV6.out.five (by omega) hs8)
  clear HV6
  clear hs8 hS8 p1 p2 p3 p4 HC8 HS7
  go_wp2_with (refine wpList_store_rep (by rfl) 36 _ _ (by rfl) _ (reC k14r2 da8 la8 dc8 lc8) (by rfl) (by rfl) _ (MapKept.heap_alloc _ _).1 repSize rfl (reC_one _ _ _ _ _) ?_; intro w10 hs10; have HW10 := Lib.hid hs10; clear hs10; obtain ⟨hv10, hb10⟩ := rep_var HS8.out.marks HR8.out.1 HR8.out.2.1 HR8.out.2.2.1 HR8.out.2.2.2 HW10.out; have HV10 := Lib.hid hv10; have HV11 := Lib.hid (HV9.out.grow HS8.out.marks hb10); clear HV9; have HS12 := Lib.hid (HS8.out.grow hb10); clear HS8; clear hv10 hb10 HW10 HR8)
  have HC13 := Lib.hid (st_doE0 HS12.out (by omega) (by omega) k14c (k14_ok _ (by simp)) m HM.out (opA 6 ⟨#[]⟩ ⟨#[]⟩ 0 0 0 9 0 none 0 0) rfl rfl k14e3)
  go_wp2_with fail
  (with_reducible refine HC13.out.mono ?_)
  rintro e w13 ⟨o13, ⟨y13, rfl, da13, la13, dc13, lc13, rfl, p1, p2, p3, p4⟩, hs13, hS13⟩
  have HS13 := Lib.hid hS13
  have HR13 := Lib.hid (And.intro p1 (And.intro p2 (And.intro p3 p4)))
  have HV14 := Lib.hid (HV11.out.five (by omega) hs13)
  clear HV11
  have HV15 := Lib.hid (HV10.out.five (by omega) hs13)
  clear HV10
  clear hs13 hS13 p1 p2 p3 p4 HC13 HS12
  go_wp2_with (refine wpList_store_rep (by rfl) 36 _ _ (by rfl) _ (reC k14r3 da13 la13 dc13 lc13) (by rfl) (by rfl) _ (MapKept.heap_alloc _ _).1 repSize rfl (reC_one _ _ _ _ _) ?_; intro w16 hs16; have HW16 := Lib.hid hs16; clear hs16; obtain ⟨hv16, hb16⟩ := rep_var HS13.out.marks HR13.out.1 HR13.out.2.1 HR13.out.2.2.1 HR13.out.2.2.2 HW16.out; have HV16 := Lib.hid hv16; have HV17 := Lib.hid (HV14.out.grow HS13.out.marks hb16); clear HV14; have HV18 := Lib.hid (HV15.out.grow HS13.out.marks hb16); clear HV15; have HS19 := Lib.hid (HS13.out.grow hb16); clear HS13; clear hv16 hb16 HW16 HR13)
  have HC20 := Lib.hid (st_doE0 HS19.out (by omega) (by omega) k14d (k14_ok _ (by simp)) m HM.out (opA 8 ⟨#[47, 97]⟩ ⟨#[]⟩ 0 0 0 0 0 none 0 0) rfl rfl k14e4)
  go_wp2_with fail
  (with_reducible refine HC20.out.mono ?_)
  rintro e w20 ⟨o20, ⟨y20, rfl, da20, la20, dc20, lc20, rfl, p1, p2, p3, p4⟩, hs20, hS20⟩
  have HS20 := Lib.hid hS20
  have HR20 := Lib.hid (And.intro p1 (And.intro p2 (And.intro p3 p4)))
  have HV21 := Lib.hid (HV17.out.five (by omega) hs20)
  clear HV17
  have HV22 := Lib.hid (HV18.out.five (by omega) hs20)
  clear HV18
  have HV23 := Lib.hid (HV16.out.five (by omega) hs20)
  clear HV16
  clear hs20 hS20 p1 p2 p3 p4 HC20 HS19
  go_wp2_with (refine wpList_store_rep (by rfl) 36 _ _ (by rfl) _ (reC k14r4 da20 la20 dc20 lc20) (by rfl) (by rfl) _ (MapKept.heap_alloc _ _).1 repSize rfl (reC_one _ _ _ _ _) ?_; intro w24 hs24; have HW24 := Lib.hid hs24; clear hs24; obtain ⟨hv24, hb24⟩ := rep_var HS20.out.marks HR20.out.1 HR20.out.2.1 HR20.out.2.2.1 HR20.out.2.2.2 HW24.out; have HV24 := Lib.hid hv24; have HV25 := Lib.hid (HV21.out.grow HS20.out.marks hb24); clear HV21; have HV26 := Lib.hid (HV22.out.grow HS20.out.marks hb24); clear HV22; have HV27 := Lib.hid (HV23.out.grow HS20.out.marks hb24); clear HV23; have HS28 := Lib.hid (HS20.out.grow hb24); clear HS20; clear hv24 hb24 HW24 HR20; have c1 := HV25.out.er; rw [k14f1] at c1; have c2 := HV25.out.n; rw [k14f2] at c2; have c3 := HV26.out.n; rw [k14f3] at c3; have c4 := HV27.out.er; rw [k14f4] at c4; have c5 := HV24.out.er; rw [k14f5] at c5)
  go_ret
  exact ⟨rfl, HS28.out.below⟩
end Go.Proofs.YtmabllemjkcobaaGreatDoor
namespace Go.Proofs.YtmabllemjkcobaaGreatDoor
open Go.ChangeShapes Go.WideShapes Go.ChangeAt Go.RowKit
set_option linter.unusedVariables false

def withinI (n lo hi : Int) : Int := lo + n % (hi - lo + 1)
theorem withinI_bd (n lo hi : Int) (h : lo ≤ hi) : lo ≤ withinI n lo hi ∧ withinI n lo hi ≤ hi := by
  unfold withinI
  have h1 := Int.emod_nonneg n (show hi - lo + 1 ≠ 0 by omega)
  have h2 := Int.emod_lt_of_pos n (show 0 < hi - lo + 1 by omega)
  omega
theorem i64_of_wf {n : Int} (h : (Lit.int .i64 n).wf = true) : -9223372036854775808 ≤ n ∧ n ≤ 9223372036854775807 := by
  simp [Lit.wf, IntKind.min, IntKind.max, IntKind.signed, IntKind.bits] at h
  omega
theorem within_any (n lo hi : Int) (w : World) (hn : (Lit.int .i64 n).wf = true) (h1 : 0 ≤ lo) (h2 : lo ≤ hi) (h3 : hi ≤ 1099511627776) :
    Calls Tryz.prog 27 #[.int .i64 n, .int .i64 lo, .int .i64 hi] w fun e w' => e = .returned (.int .i64 (withinI n lo hi)) ∧ w = w' := by
  obtain ⟨hw1, hw2⟩ := i64_of_wf hn
  clear hn
  have t1 := Int.tmod_lt_of_pos n (show 0 < hi - lo + 1 by omega)
  have t2 := Int.lt_tmod_of_pos n (show 0 < hi - lo + 1 by omega)
  have t3 := Int.emod_nonneg n (show hi - lo + 1 ≠ 0 by omega)
  have t4 := Int.emod_lt_of_pos n (show 0 < hi - lo + 1 by omega)
  by_cases hn : 0 ≤ n
  · have hx : ¬ n % (hi - lo + 1) < 0 := by omega
    go_enter Tryz.func27, Tryz.ntmps27
    go_wp2
    go_ret
    exact ⟨ret_int (by unfold withinI; rfl), rfl⟩
  · have hE : n % (hi - lo + 1) = if n.tmod (hi - lo + 1) < 0 then n.tmod (hi - lo + 1) + (hi - lo + 1) else n.tmod (hi - lo + 1) := by
      have h5 := Int.emod_add_mul_ediv n (hi - lo + 1)
      have h6 := Int.tmod_add_mul_tdiv n (hi - lo + 1)
      have h7 : (n.tmod (hi - lo + 1)) % (hi - lo + 1) = n % (hi - lo + 1) := by
        have h8 : n = n.tmod (hi - lo + 1) + (hi - lo + 1) * n.tdiv (hi - lo + 1) := by omega
        rw [← Int.add_mul_emod_self_left (n.tmod (hi - lo + 1)) (hi - lo + 1) (n.tdiv (hi - lo + 1)), ← h8]
      split
      · rw [← h7, ← Int.add_emod_right, Int.emod_eq_of_lt (by omega) (by omega)]
      · rw [← h7, Int.emod_eq_of_lt (by omega) (by omega)]
    have HE := Lib.hid hE
    clear hE
    by_cases ht : n.tmod (hi - lo + 1) < 0
    · go_enter Tryz.func27, Tryz.ntmps27
      go_wp2
      go_ret
      exact ⟨ret_int (by unfold withinI; rw [HE.out, if_pos ht]; omega), rfl⟩
    · go_enter Tryz.func27, Tryz.ntmps27
      go_wp2
      go_ret
      exact ⟨ret_int (by unfold withinI; rw [HE.out, if_neg (by omega)]), rfl⟩
end Go.Proofs.YtmabllemjkcobaaGreatDoor
namespace Go.Proofs.YtmabllemjkcobaaGreatDoor
open Go.ChangeShapes Go.WideShapes Go.ChangeAt Go.RowKit
set_option linter.unusedVariables false
set_option linter.unusedSimpArgs false

def names14 : List (List UInt8) := [[47, 97], [47, 98], [47, 99], [47, 97, 47, 97], [47, 97, 47, 98], [47, 98, 47, 97], [47, 98, 47, 98, 47, 97], [47], [47, 99, 47, 97], [47, 98, 47, 98], [47, 65], [97], [47, 97, 47, 47, 98], [47, 97, 47]]
def NameRet (w : World) (e : Ending) (w' : World) : Prop := ∃ s, s ∈ names14 ∧ e = .returned (.string (strOf s)) ∧ Below w.heap.size w w'
set_option maxRecDepth 100000 in
set_option maxHeartbeats 8000000 in
theorem name_any (z : Int) (hz : (Lit.int .i64 z).wf = true) (w : World) : Calls Tryz.prog 34 #[.int .i64 z] w (NameRet w) := by
  obtain ⟨v, hv⟩ : ∃ v, v = withinI z 0 1048576 := ⟨_, rfl⟩
  have hb := withinI_bd z 0 1048576 (by omega)
  have HW := Lib.hid (within_any z 0 1048576 (w.alloc (.cells #[.string ⟨#[47, 97]⟩, .string ⟨#[47, 98]⟩, .string ⟨#[47, 99]⟩, .string ⟨#[47, 97, 47, 97]⟩, .string ⟨#[47, 97, 47, 98]⟩, .string ⟨#[47, 98, 47, 97]⟩, .string ⟨#[47, 98, 47, 98, 47, 97]⟩, .string ⟨#[47]⟩, .string ⟨#[47, 99, 47, 97]⟩, .string ⟨#[47, 98, 47, 98]⟩, .string ⟨#[47, 65]⟩, .string ⟨#[97]⟩, .string ⟨#[47, 97, 47, 47, 98]⟩, .string ⟨#[47, 97, 47]⟩] 9)) hz (by omega) (by omega) (by omega))
  rw [← hv] at hb HW
  clear hv
  obtain ⟨k, rfl⟩ : ∃ k : Nat, v = k := ⟨v.toNat, by omega⟩
  obtain ⟨q, hq⟩ : ∃ q, q = k % 14 := ⟨_, rfl⟩
  have h2 : (k : Int) % 14 = (q : Int) := by rw [hq]; omega
  have h1 : (k : Int).tmod 14 = (q : Int) := by rw [Int.tmod_eq_emod_of_nonneg (by omega)]; exact h2
  have hlt : q < 14 := by rw [hq]; omega
  clear hq
  rcases (show q = 0 ∨ q = 1 ∨ q = 2 ∨ q = 3 ∨ q = 4 ∨ q = 5 ∨ q = 6 ∨ q = 7 ∨ q = 8 ∨ q = 9 ∨ q = 10 ∨ q = 11 ∨ q = 12 ∨ q = 13 by omega) with rfl | rfl | rfl | rfl | rfl | rfl | rfl | rfl | rfl | rfl | rfl | rfl | rfl | rfl
  · go_enter Tryz.func34, Tryz.ntmps34
    go_wp2_with fail
    (with_reducible refine HW.out.mono ?_)
    rintro e w1 ⟨rfl, rfl⟩
    clear HW
    go_wp2_with fail
    go_ret
    exact ⟨[47, 97], by simp [names14], rfl, (Below.refl _ _).alloc (Nat.le_refl _) _⟩
  · go_enter Tryz.func34, Tryz.ntmps34
    go_wp2_with fail
    (with_reducible refine HW.out.mono ?_)
    rintro e w1 ⟨rfl, rfl⟩
    clear HW
    go_wp2_with fail
    go_ret
    exact ⟨[47, 98], by simp [names14], rfl, (Below.refl _ _).alloc (Nat.le_refl _) _⟩
  · go_enter Tryz.func34, Tryz.ntmps34
    go_wp2_with fail
    (with_reducible refine HW.out.mono ?_)
    rintro e w1 ⟨rfl, rfl⟩
    clear HW
    go_wp2_with fail
    go_ret
    exact ⟨[47, 99], by simp [names14], rfl, (Below.refl _ _).alloc (Nat.le_refl _) _⟩
  · go_enter Tryz.func34, Tryz.ntmps34
    go_wp2_with fail
    (with_reducible refine HW.out.mono ?_)
    rintro e w1 ⟨rfl, rfl⟩
    clear HW
    go_wp2_with fail
    go_ret
    exact ⟨[47, 97, 47, 97], by simp [names14], rfl, (Below.refl _ _).alloc (Nat.le_refl _) _⟩
  · go_enter Tryz.func34, Tryz.ntmps34
    go_wp2_with fail
    (with_reducible refine HW.out.mono ?_)
    rintro e w1 ⟨rfl, rfl⟩
    clear HW
    go_wp2_with fail
    go_ret
    exact ⟨[47, 97, 47, 98], by simp [names14], rfl, (Below.refl _ _).alloc (Nat.le_refl _) _⟩
  · go_enter Tryz.func34, Tryz.ntmps34
    go_wp2_with fail
    (with_reducible refine HW.out.mono ?_)
    rintro e w1 ⟨rfl, rfl⟩
    clear HW
    go_wp2_with fail
    go_ret
    exact ⟨[47, 98, 47, 97], by simp [names14], rfl, (Below.refl _ _).alloc (Nat.le_refl _) _⟩
  · go_enter Tryz.func34, Tryz.ntmps34
    go_wp2_with fail
    (with_reducible refine HW.out.mono ?_)
    rintro e w1 ⟨rfl, rfl⟩
    clear HW
    go_wp2_with fail
    go_ret
    exact ⟨[47, 98, 47, 98, 47, 97], by simp [names14], rfl, (Below.refl _ _).alloc (Nat.le_refl _) _⟩
  · go_enter Tryz.func34, Tryz.ntmps34
    go_wp2_with fail
    (with_reducible refine HW.out.mono ?_)
    rintro e w1 ⟨rfl, rfl⟩
    clear HW
    go_wp2_with fail
    go_ret
    exact ⟨[47], by simp [names14], rfl, (Below.refl _ _).alloc (Nat.le_refl _) _⟩
  · go_enter Tryz.func34, Tryz.ntmps34
    go_wp2_with fail
    (with_reducible refine HW.out.mono ?_)
    rintro e w1 ⟨rfl, rfl⟩
    clear HW
    go_wp2_with fail
    go_ret
    exact ⟨[47, 99, 47, 97], by simp [names14], rfl, (Below.refl _ _).alloc (Nat.le_refl _) _⟩
  · go_enter Tryz.func34, Tryz.ntmps34
    go_wp2_with fail
    (with_reducible refine HW.out.mono ?_)
    rintro e w1 ⟨rfl, rfl⟩
    clear HW
    go_wp2_with fail
    go_ret
    exact ⟨[47, 98, 47, 98], by simp [names14], rfl, (Below.refl _ _).alloc (Nat.le_refl _) _⟩
  · go_enter Tryz.func34, Tryz.ntmps34
    go_wp2_with fail
    (with_reducible refine HW.out.mono ?_)
    rintro e w1 ⟨rfl, rfl⟩
    clear HW
    go_wp2_with fail
    go_ret
    exact ⟨[47, 65], by simp [names14], rfl, (Below.refl _ _).alloc (Nat.le_refl _) _⟩
  · go_enter Tryz.func34, Tryz.ntmps34
    go_wp2_with fail
    (with_reducible refine HW.out.mono ?_)
    rintro e w1 ⟨rfl, rfl⟩
    clear HW
    go_wp2_with fail
    go_ret
    exact ⟨[97], by simp [names14], rfl, (Below.refl _ _).alloc (Nat.le_refl _) _⟩
  · go_enter Tryz.func34, Tryz.ntmps34
    go_wp2_with fail
    (with_reducible refine HW.out.mono ?_)
    rintro e w1 ⟨rfl, rfl⟩
    clear HW
    go_wp2_with fail
    go_ret
    exact ⟨[47, 97, 47, 47, 98], by simp [names14], rfl, (Below.refl _ _).alloc (Nat.le_refl _) _⟩
  · go_enter Tryz.func34, Tryz.ntmps34
    go_wp2_with fail
    (with_reducible refine HW.out.mono ?_)
    rintro e w1 ⟨rfl, rfl⟩
    clear HW
    go_wp2_with fail
    go_ret
    exact ⟨[47, 97, 47], by simp [names14], rfl, (Below.refl _ _).alloc (Nat.le_refl _) _⟩
theorem names14_few {s : List UInt8} (h : s ∈ names14) : s.length ≤ 6 := by
  have : ∀ s ∈ names14, s.length ≤ 6 := by decide
  exact this s h
end Go.Proofs.YtmabllemjkcobaaGreatDoor
namespace Go.Proofs.YtmabllemjkcobaaGreatDoor
open Go.ChangeShapes Go.WideShapes Go.ChangeAt Go.RowKit
set_option linter.unusedVariables false

theorem cut_any (a : Option Addr) (len cap n : Nat) (hl : len ≤ cap) (hn : n ≤ 1048576) (hm : len ≤ maxLen) (w : World) :
    Calls Tryz.prog 28 #[.slice a len cap, .int .i64 n] w fun e w' => e = .returned (.slice a (min len n) cap) ∧ w = w' := by
  unfold maxLen at hm
  by_cases h : n < len
  · have e1 : n ≤ cap := by omega
    go_enter Tryz.func28, Tryz.ntmps28
    go_wp2
    go_ret
    rw [show min len n = n by omega]
    exact ⟨rfl, rfl⟩
  · go_enter Tryz.func28, Tryz.ntmps28
    go_wp2
    go_ret
    rw [show min len n = len by omega]
    exact ⟨rfl, rfl⟩

end Go.Proofs.YtmabllemjkcobaaGreatDoor
