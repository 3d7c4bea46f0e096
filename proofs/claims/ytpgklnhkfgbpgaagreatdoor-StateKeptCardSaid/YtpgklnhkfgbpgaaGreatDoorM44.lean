/- permafrostkeep.Tame. The library's own number; a world for the witnesses. package state: a state of one file, "/a", plainly. package snap: Save. A reply's fields. -/
import Derived.Test.YtpgklnhkfgbpgaaGreatDoorM43
import Derived.Test.YtpgklnhkfgbpgaaGreatDoorM01
import Derived.SliceStrings
import Derived.Shelf.Vars
import Derived.Test.YtpgklnhkfgbpgaaGreatDoorM41
import Derived.Test.YtpgklnhkfgbpgaaGreatDoorM24
import Derived.Test.YtpgklnhkfgbpgaaGreatDoorM25
import Derived.Test.YtpgklnhkfgbpgaaGreatDoorM28
namespace Go.Proofs.YtpgklnhkfgbpgaaGreatDoor
open Go.ChangeShapes Go.WideShapes Go.ChangeAt Go.RowKit
set_option linter.unusedVariables false
set_option linter.unusedSimpArgs false

theorem tame_any {S : Nat → Prop} (w : World) (x : OpM) (hx : OpRaw x) (da : Option Addr) (dc : Nat) (hdc : x.data.length ≤ dc) (hda : RowAt S w da x.data.length (x.data.map bv)) :
    Calls Tryz.prog 15 #[.agg (opC x da dc)] w (TameRet S w x da) := by
  obtain ⟨kd, pa, to_, fd, at_, nn, til, sn, dt⟩ := x
  exact tame_all w kd pa to_ fd at_ nn til sn dt hx da dc hdc hda
end Go.Proofs.YtpgklnhkfgbpgaaGreatDoor
namespace Go.Proofs.YtpgklnhkfgbpgaaGreatDoor
open Go.ChangeShapes Go.WideShapes Go.ChangeAt Go.RowKit
set_option linter.unusedVariables false

theorem maxLen_cell {w : World} (h : w.ShapedOpen Tryz.prog) : ∃ m, w.cell? ⟨0, 0, none⟩ = some (.int .i64 m) ∧ 0 < w.heap.size := by
  obtain ⟨m, hm⟩ := Go.Proofs.cell_of_shapedOpen_int (zero := #[.int .i64 0]) (t := 3) h (of_decide_eq_true (by kernel_rfl)) (by kernel_rfl) rfl (by kernel_rfl) (by kernel_rfl) Tryz.underlying3
  exact ⟨m, hm, World.block_lt_of_cell? w _ hm⟩

/-- A world for the witnesses: the two listed tables of unicode/utf8 hold what their text lays. -/
def layFirst : Obj → Obj
  | .cells _ t frozen => .cells ((Go.Pinned.utf8FirstZ.map fun (n : Nat) => Value.int .u8 (n : Int)).toArray) t frozen
  | o => o
def layRanges : Obj → Obj
  | .cells _ t frozen => .cells ((([128, 191, 160, 191, 128, 159, 144, 191, 128, 143, 0, 0, 0, 0, 0, 0, 0, 0, 0, 0, 0, 0, 0, 0, 0, 0, 0, 0, 0, 0, 0, 0] : List Nat).map fun (n : Nat) => Value.int .u8 (n : Int)).toArray) t frozen
  | o => o
noncomputable def laidBase (os : Os) : World :=
  { World.holding Tryz.prog os ⟨#[], #[], []⟩ with heap := ((World.holding Tryz.prog os ⟨#[], #[], []⟩).heap.modify 1 layFirst).modify 2 layRanges }

end Go.Proofs.YtpgklnhkfgbpgaaGreatDoor
namespace Go.Proofs.YtpgklnhkfgbpgaaGreatDoor
open Go.ChangeShapes Go.WideShapes Go.ChangeAt Go.RowKit
set_option linter.unusedVariables false
set_option linter.unusedSimpArgs false

/-- A tree of one file. -/
def oneT (d : List UInt8) (c : Bool) (u : Int) : TrM := [(0, ⟨2, 1, 0, true, [], [([97], 1)]⟩), (1, ⟨1, 1, u, c, d, []⟩)]
/-- One descriptor, the first. -/
def fd1 (f : Option FdM) : Nat → Option FdM := fun n => if n = 0 then f else none
theorem put_fd1 (M : StM) (f g : Option FdM) (h : M.fds = fd1 f) : M.put 0 g = { M with fds := fd1 g } := by
  unfold StM.put
  rw [h]
  congr 1
  funext n
  unfold fd1
  by_cases hn : n = 0
  · simp [hn]
  · simp [hn]
theorem fd1_none : fd1 none = fun _ => none := by funext n; unfold fd1; split <;> rfl
def stA (d : List UInt8) (c : Bool) (u : Int) (f : Option FdM) : StM := ⟨oneT d c u, newSn, 0, fd1 f⟩
theorem k14s1_eq : k14s1 = stA [] false 0 (some ⟨true, 1, []⟩) := by kernel_rfl
theorem k14r1_eq : k14r1 = ⟨0, 0, [], [], none⟩ := by kernel_rfl
theorem do_create : sdoM newSt k14a = (⟨0, 0, [], [], none⟩, stA [] false 0 (some ⟨true, 1, []⟩)) := by rw [k14e1, k14r1_eq, k14s1_eq]
def wrO (d : List UInt8) : OpM := ⟨5, [], [], 0, 0, 0, 0, 0, d⟩
def clO (u : Int) : OpM := ⟨6, [], [], 0, 0, 0, u, 0, []⟩
def opO_ : OpM := ⟨3, [47, 97], [], 0, 0, 0, 0, 0, []⟩
theorem wrO_ok (d : List UInt8) (h : d.length ≤ 1000000) : OpOk (wrO d) := by unfold wrO; exact opOk_small (by simp) (by simp) (by simp) (by simp) (by simp) (by simp) (by simp) (by simp) h
theorem clO_ok (u : Int) (h : 0 ≤ u ∧ u ≤ 18446744073709551615) : OpOk (clO u) := by unfold clO; exact opOk_small (by simp) (by simp) (by simp) (by simp) (by simp) h (by simp) (by simp) (by simp)
theorem opO_ok : OpOk opO_ := opOk_small (by decide) (by decide) (by decide) (by decide) (by decide) (by decide) (by decide) (by decide) (by decide)
theorem one_append (d : List UInt8) (h : d.length ≤ 4096) : appendM (oneT [] false 0) 1 d = (0, oneT d false 0) := by
  have e : appendE (oneT [] false 0) 1 d = 0 := by
    show (if 4096 < ([] : List UInt8).length + d.length then (15 : Int) else 0) = 0
    rw [if_neg (by simp; omega)]
  unfold appendM
  rw [e, if_pos rfl]
  rfl
theorem one_seal (d : List UInt8) (u : Int) (h : u ≤ 1099511627776) : sealM (oneT d false 0) 1 u = (0, oneT d true u) := by
  have e : sealE (oneT d false 0) 1 u = 0 := by
    show (if 1099511627776 < u then (1 : Int) else 0) = 0
    rw [if_neg (by omega)]
  unfold sealM
  rw [e, if_pos rfl]
  rfl
theorem do_write (d : List UInt8) (h : d.length ≤ 600) : sdoM (stA [] false 0 (some ⟨true, 1, []⟩)) ⟨5, [], [], 0, 0, 0, 0, 0, d⟩ = (⟨0, d.length, [], [], none⟩, stA d false 0 (some ⟨true, 1, []⟩)) := by
  show swriteM (stA [] false 0 (some ⟨true, 1, []⟩)) ⟨5, [], [], 0, 0, 0, 0, 0, d⟩ = _
  have hg : getFd (stA [] false 0 (some ⟨true, 1, []⟩)) 0 true = some ⟨true, 1, []⟩ := rfl
  unfold swriteM
  dsimp only
  rw [hg]
  dsimp only
  rw [if_neg (by omega)]
  have ha : appendM (stA [] false 0 (some ⟨true, 1, []⟩)).t 1 d = (0, oneT d false 0) := one_append d (by omega)
  rw [ha]
  rfl
theorem do_close (d : List UInt8) (u : Int) (h : u ≤ 1099511627776) : sdoM (stA d false 0 (some ⟨true, 1, []⟩)) ⟨6, [], [], 0, 0, 0, u, 0, []⟩ = (noM 0, stA d true u none) := by
  show ofEr (scloseM (stA d false 0 (some ⟨true, 1, []⟩)) ⟨6, [], [], 0, 0, 0, u, 0, []⟩) = _
  have hg : getFd (stA d false 0 (some ⟨true, 1, []⟩)) 0 true = some ⟨true, 1, []⟩ := rfl
  unfold scloseM
  dsimp only
  rw [hg]
  dsimp only
  have hs : sealM (stA d false 0 (some ⟨true, 1, []⟩)).t 1 u = (0, oneT d true u) := one_seal d u h
  rw [hs]
  show ofEr (0, StM.put { (stA d false 0 (some ⟨true, 1, []⟩)) with t := oneT d true u } 0 none) = _
  rw [put_fd1 _ (some ⟨true, 1, []⟩) none rfl]
  rfl
end Go.Proofs.YtpgklnhkfgbpgaaGreatDoor
namespace Go.Proofs.YtpgklnhkfgbpgaaGreatDoor
open Go.ChangeShapes Go.WideShapes Go.ChangeAt Go.RowKit
set_option linter.unusedVariables false
set_option linter.unusedSimpArgs false

def oneB (x : OneM) : List UInt8 := beB x.id 8 ++ rowB x.hash ++ beB (saveB x.t).length 8 ++ saveB x.t
def saveSn (S : SnM) : List UInt8 := beB S.next 8 ++ rowB S.last ++ beB S.l.length 1 ++ S.l.flatMap oneB
/-- What Save asks of snapshots. -/
structure SvOk (S : SnM) : Prop where
  few : S.l.length ≤ 8
  last : S.last.length ≤ 64
  next : 0 ≤ S.next ∧ S.next ≤ 1000000000
  each : ∀ x ∈ S.l, (0 ≤ x.id ∧ x.id ≤ 1000000000) ∧ x.hash.length ≤ 64
theorem saveB_small {T : TrM} (hT : OkM T) : (saveB T).length ≤ 6000000 := by
  have h1 := items_len hT T (fun q hq => hq)
  have h2 := hT.len
  unfold saveB
  rw [List.length_append, beB_len]
  omega
theorem oneB_len {x : OneM} (hT : OkM x.t) (hh : x.hash.length ≤ 64) : (oneB x).length ≤ 6000100 := by
  have := saveB_small hT
  unfold oneB
  simp only [List.length_append, beB_len, rowB_len]
  omega
theorem ones_len {o : Mark} {w : World} : ∀ {vs : List Value} {l : List OneM}, OnesAt o w vs l → (∀ x ∈ l, x.hash.length ≤ 64) → (l.flatMap oneB).length ≤ 6000100 * l.length
  | _, [], _, _ => by simp
  | _, x :: r, ⟨v1, v2, h1, h2, h3⟩, hh => by
    obtain ⟨a, c, q, e1, e2, e3, e4, e5⟩ := h2
    have k1 := oneB_len e5 (hh x (by simp))
    have k2 := ones_len h3 fun y hy => hh y (by simp [hy])
    rw [List.flatMap_cons, List.length_append, List.length_cons]
    omega
theorem take_oneB {l : List OneM} {k : Nat} {x : OneM} (h : l[k]? = some x) : (l.take (k + 1)).flatMap oneB = (l.take k).flatMap oneB ++ oneB x := by
  obtain ⟨hk, e⟩ := List.getElem?_eq_some_iff.1 h
  rw [List.take_succ_eq_append_getElem hk, List.flatMap_append, e]
  simp
theorem take_ones_len {o : Mark} {w : World} {vs : List Value} {l : List OneM} (h : OnesAt o w vs l) (hh : ∀ x ∈ l, x.hash.length ≤ 64) (h8 : l.length ≤ 8) (k : Nat) : ((l.take k).flatMap oneB).length ≤ 50000000 := by
  have := ones_len (h.take k) fun x hx => hh x (List.mem_of_mem_take hx)
  have h9 : (l.take k).length ≤ 8 := by rw [List.length_take]; omega
  omega
/-- These blocks are not the writer's. -/
def Aside (x : Nat) (v : Value) (lo hi : Nat) : Prop := ∀ b, lo ≤ b → b < hi → b ≠ x ∧ v.ownBlock ≠ some b
theorem Aside.more {B x lo hi : Nat} {w w' : World} {v v' : Value} {bs' : List UInt8} (h : Aside x v lo hi) (hm : WMore B w x v bs' v' w') (hw : hi ≤ w.heap.size) : Aside x v' lo hi ∧ ∀ b, lo ≤ b → b < hi → w'.heap[b]? = w.heap[b]? := by
  refine ⟨fun b h1 h2 => ⟨(h b h1 h2).1, fun h9 => ?_⟩, fun b h1 h2 => hm.2.1.block b (by omega) fun h9 => ?_⟩
  · rcases hm.2.2 b h9 with h3 | h3
    · exact (h b h1 h2).2 h3
    · omega
  · rcases h9 with h3 | h3
    · exact (h b h1 h2).1 h3
    · exact (h b h1 h2).2 h3
section
variable {W w : World} {o : Mark} {i s : Nat} {S : SnM}
/-- Writing so far. -/
def SvRel (w : World) (x : Nat) (bs : List UInt8) (wr : World) : Prop := ∃ v, WriterAt w.heap.size wr x v bs ∧ Below w.heap.size w wr
theorem SvRel.more {w : World} {x : Nat} {bs bs' : List UInt8} {wr w' : World} {v : Value} {e : Ending} (h : WriterAt w.heap.size wr x v bs) (hb : Below w.heap.size w wr) (ht : WTurn w.heap.size wr x v bs' e w') : e = .returned (.tuple #[]) ∧ SvRel w x bs' w' := by
  obtain ⟨rfl, v', hm⟩ := ht
  exact ⟨rfl, v', hm.1, hb.trans (hm.low h)⟩
theorem conv_iu (z : Int) (h0 : 0 ≤ z) (h1 : z ≤ 1000000000) : ∀ w, (convert 3 29 (.int .i64 z)).run Tryz.prog w = .ok (.int .u64 z) w := fun w => by
  have hk : Tryz.prog.intKind 29 = .u64 := by kernel_rfl
  have := run_convert_int (P := Tryz.prog) w 3 29 .i64 z (by rw [Tryz.underlying3]; rfl) (by rw [hk]; exact Tryz.underlying29)
  rw [this, hk]
  have e : IntKind.u64.wrap z = z := by
    show z % 18446744073709551616 = z
    omega
  rw [e]
set_option maxRecDepth 100000 in
set_option maxHeartbeats 8000000 in
theorem ssave_any (hS : SnapsO o i w s S) (hM : Marks W o w) (hv : SvOk S) : Calls Tryz.prog 56 #[ptr s] w (RetRow w (saveSn S)) := by
  obtain ⟨v, la, lc, vals, h1, h2, h3, h4, h5, h6, h7, h8⟩ := hS.at_
  obtain ⟨a, c, rfl, hcap⟩ := own_form h4
  have hfew := hv.few
  obtain ⟨-, -, hrow⟩ := RowAt.of_rown h4 (by unfold maxLen; omega)
  have HON := Lib.hid h6
  have HROW := Lib.hid hrow
  have HLR := Lib.hid h8
  have HLC := Lib.hid h7
  have HM := Lib.hid hM
  have HV := Lib.hid hv
  have HTK := Lib.hid (take_ones_len h6 (fun x hx => (hv.each x hx).2) hv.few)
  have HH : Hid (∀ w', Below w.heap.size w w' → w'.cell? ⟨s, 0, none⟩ = some (.slice a S.l.length c) ∧ w'.cell? ⟨s, 1, none⟩ = some (.int .i64 S.next) ∧ w'.cell? ⟨s, 2, none⟩ = some (.slice la S.last.length lc)) := fun w' hb => by
    have := (hb.block s h3).trans h1
    refine ⟨?_, ?_, ?_⟩ <;> simp [World.cell?, this]
  have hcn := conv_iu S.next hv.next.1 hv.next.2
  obtain ⟨n, hn⟩ : ∃ n, n = S.l.length := ⟨_, rfl⟩
  have HN := Lib.hid hn
  rw [← hn] at HH hcap hfew
  have hll := hv.last
  have hnx := hv.next
  obtain ⟨c0, c1, c2⟩ := HH.out w (Below.refl _ _)
  clear hS hM hv h1 h2 h4 h5 h6 h7 h8 hrow hn
  go_enter Tryz.func56, Tryz.ntmps56
  go_wp2_with fail
  (with_reducible refine (newWriter_any _).mono ?_)
  rintro e w1 ⟨rfl, hW1, hb1⟩
  have HW1 := Lib.hid hW1
  have HB1 := Lib.hid hb1
  obtain ⟨d0, d1, d2⟩ := HH.out w1 hb1
  clear hW1 hb1 c0 c1 c2
  go_wp2_with fail
  (with_reducible refine (long_any HW1.out S.next hnx.1 (by omega) (by simp)).mono ?_)
  intro e w2 ht2
  obtain ⟨rfl, x2, hW2, hb2⟩ := SvRel.more HW1.out HB1.out ht2
  have HW2 := Lib.hid hW2
  have HB2 := Lib.hid hb2
  obtain ⟨e0, e1, e2⟩ := HH.out w2 hb2
  clear ht2 hW2 hb2 d0 d1 d2 HW1
  go_wp2_with fail
  have hlr := HLR.out.below HB2.out (Nat.le_refl _)
  (with_reducible refine (bytes_w HW2.out la S.last.length lc S.last hlr (fun b hb => ⟨by have := HW2.out.low; omega, fun h9 => by have := own_block_ge HW2.out.own b h9; omega⟩) HLC.out (by simp [beB_len]) (by omega)).mono ?_)
  intro e w3 ht3
  obtain ⟨rfl, x3, hW3, hb3⟩ := SvRel.more HW2.out HB2.out ht3
  have HW3 := Lib.hid hW3
  have HB3 := Lib.hid hb3
  obtain ⟨f0, f1, f2⟩ := HH.out w3 hb3
  clear ht3 hW3 hb3 e0 e1 e2 HW2 hlr
  go_wp2_with fail
  (with_reducible refine (byte_any HW3.out (n : Int) (by omega) (by omega) (by simp [beB_len]; omega)).mono ?_)
  intro e w4 ht4
  obtain ⟨rfl, x4, hW4, hb4⟩ := SvRel.more HW3.out HB3.out ht4
  have HW4 := Lib.hid hW4
  have HB4 := Lib.hid hb4
  obtain ⟨k0, k1, k2⟩ := HH.out w4 hb4
  clear ht4 hW4 hb4 f0 f1 f2 HW3
  obtain ⟨pre, hpre⟩ : ∃ pre, pre = [] ++ beB S.next 8 ++ (beB (S.last.length : Int) 2 ++ S.last) ++ beB (n : Int) 1 := ⟨_, rfl⟩
  have hprl : pre.length ≤ 1000 := by rw [hpre]; simp [beB_len]; omega
  rw [← hpre] at HW4
  have HPRE := Lib.hid hpre
  clear hpre
  go_wp2_with fail
  go_loopw [5, 6, 33] (fun _ _ iv wr => ∃ k : Nat, iv = .int .i64 k ∧ k ≤ n ∧ SvRel w w.heap.size (pre ++ (S.l.take k).flatMap oneB) wr) (fun _ _ iv _ => n - (intOf iv).toNat)
  case atStart => exact ⟨0, rfl, Nat.zero_le _, x4, by simpa using HW4.out, HB4.out⟩
  case round =>
    obtain ⟨k, rfl, hk, y, hy, hby⟩ := hrel
    have HY := Lib.hid hy
    have HBY := Lib.hid hby
    have hbl := HTK.out k
    clear hy hby
    by_cases hlt : k < n
    · have hd : decide ((k : Int) < (n : Int)) = true := by simpa using hlt
      obtain ⟨x, hx⟩ : ∃ x, S.l[k]? = some x := ⟨S.l[k]'(by have := HN.out; omega), List.getElem?_eq_getElem _⟩
      have HRW := HROW.out
      rw [← HN.out] at HRW
      obtain ⟨g, off, rfl, hgw, _, hcell⟩ := HRW.at_ (by omega)
      obtain ⟨ha, hcp, q, r0, r1, r2, r3, r4, r5, r6⟩ := HON.out.at_ hx
      have q0 : wr.cell? ⟨g, off + k * 3, none⟩ = some (.int .i64 x.id) := (HBY.out.cell (p := ⟨g, off + k * 3, none⟩) hgw.2).trans ((hcell (k * 3) (by omega)).trans r0)
      have q1 : wr.cell? ⟨g, off + k * 3 + 1, none⟩ = some (.slice ha x.hash.length hcp) := (HBY.out.cell (p := ⟨g, off + k * 3 + 1, none⟩) hgw.2).trans ((hcell (k * 3 + 1) (by omega)).trans r1)
      have q2 : wr.cell? ⟨g, off + k * 3 + 2, none⟩ = some (ptr q) := (HBY.out.cell (p := ⟨g, off + k * 3 + 2, none⟩) hgw.2).trans ((hcell (k * 3 + 2) (by omega)).trans r2)
      have hid := HV.out.each x (List.mem_of_getElem? hx)
      have hci := conv_iu x.id hid.1.1 hid.1.2
      have hsb := saveB_small r6
      have hcb := conv_iu ((saveB x.t).length : Int) (by omega) (by omega)
      have HX := Lib.hid hx
      have HR4 := Lib.hid r4
      have HR5 := Lib.hid r5
      have HR6 := Lib.hid r6
      have i0 : (0 : Int) ≤ (k : Int) := by omega
      have i1 : (k : Int) < (n : Int) := by omega
      have hs0 := HBY.out.size
      clear hx r0 r1 r2 r4 r5 r6 hcell HRW
      go_wp2_with fail
      have hub := wall wr (.cells #[.int .i64 x.id, .slice ha x.hash.length hcp, ptr q] 108)
      have hu1 := (MapKept.heap_alloc wr (.cells #[.int .i64 x.id, .slice ha x.hash.length hcp, ptr q] 108)).1
      (with_reducible refine (om_save (HR5.out.grow (HBY.out.trans (Below.mono hub hs0))) HR6.out).mono ?_)
      rintro e u2 ⟨ba, bn, bc, rfl, hbc, hbr, hb6⟩
      have hbl2 : bn = (saveB x.t).length := by have := hbr.length; simpa using this.symm
      subst hbl2
      have hyl := own_lt HY.out.own
      have hxl := HY.out.lt
      have hu2 := (hb6.block wr.heap.size (by simp)).trans hu1
      have hbu : Below wr.heap.size wr u2 := hub.trans (hb6.mono hub.size)
      have HBR := Lib.hid (hbr.mono (S' := fun b => wr.heap.size ≤ b ∧ b < u2.heap.size) fun b hb => ⟨Nat.le_trans hub.size hb.1, hb.2⟩)
      have HAS : Hid (Aside w.heap.size y wr.heap.size u2.heap.size) := fun b h1 h2 => ⟨by omega, fun h9 => by have := hyl b h9; omega⟩
      have HW6 := Lib.hid (HY.out.below hbu)
      have HB6 := Lib.hid (HBY.out.trans (hbu.mono hs0))
      have HU2 := Lib.hid hu2
      have hwu : wr.heap.size < u2.heap.size := (Array.getElem?_eq_some_iff.1 hu2).1
      have v0 : u2.cell? ⟨wr.heap.size, 0, none⟩ = some (.int .i64 x.id) := by simp [World.cell?, hu2]
      have v1 : u2.cell? ⟨wr.heap.size, 1, none⟩ = some (.slice ha x.hash.length hcp) := by simp [World.cell?, hu2]
      have hl6 : (pre ++ (S.l.take k).flatMap oneB).length ≤ 50001000 := by rw [List.length_append]; omega
      obtain ⟨b0, hb0⟩ : ∃ b0, b0 = pre ++ (S.l.take k).flatMap oneB := ⟨_, rfl⟩
      rw [← hb0] at hl6
      have HW6' : Hid (WriterAt w.heap.size u2 w.heap.size y b0) := by rw [hb0]; exact HW6
      have HBQ := Lib.hid hb0
      clear hub hu1 hbr hb6 hyl hu2 hbu q0 q1 q2 HY HW6 hb0
      go_wp2_with fail
      (with_reducible refine (long_any HW6'.out x.id hid.1.1 (by omega) (by omega)).mono ?_)
      rintro e u3 ⟨rfl, y3, hm3⟩
      obtain ⟨has3, hk3⟩ := HAS.out.more hm3 (Nat.le_refl _)
      have hu3 := (hk3 wr.heap.size (Nat.le_refl _) hwu).trans HU2.out
      have HW7 := Lib.hid hm3.1
      have HB7 := Lib.hid (HB6.out.trans (hm3.low HW6'.out))
      have HAS3 := Lib.hid has3
      have hs3 := hm3.2.1.size
      have HBR3 := Lib.hid (HBR.out.kept hs3 (fun b hb _ => hk3 b hb.1 hb.2))
      have v1' : u3.cell? ⟨wr.heap.size, 1, none⟩ = some (.slice ha x.hash.length hcp) := by simp [World.cell?, hu3]
      clear hm3 has3 hk3 hu3 v0 v1 HW6' HBR
      go_wp2_with fail
      have hhr := HR4.out.below HB7.out (Nat.le_refl _)
      (with_reducible refine (bytes_w HW7.out ha x.hash.length hcp x.hash hhr (fun b hb => ⟨by omega, fun h9 => by have := own_block_ge HW7.out.own b h9; omega⟩) (by omega) (by simp [beB_len]; omega) (by omega)).mono ?_)
      rintro e u4 ⟨rfl, y4, hm4⟩
      obtain ⟨has4, hk4⟩ := HAS3.out.more hm4 hs3
      have hs4 := hm4.2.1.size
      have HW8 := Lib.hid hm4.1
      have HB8 := Lib.hid (HB7.out.trans (hm4.low HW7.out))
      have HAS4 := Lib.hid has4
      have HBR4 := Lib.hid (HBR3.out.kept hs4 (fun b hb _ => hk4 b hb.1 hb.2))
      clear hm4 has4 hk4 v1' hhr HW7 HBR3
      go_wp2_with fail
      (with_reducible refine (long_any HW8.out ((saveB x.t).length : Int) (by omega) (by omega) (by simp [beB_len]; omega)).mono ?_)
      rintro e u5 ⟨rfl, y5, hm5⟩
      obtain ⟨has5, hk5⟩ := HAS4.out.more hm5 (by omega)
      have hs5 := hm5.2.1.size
      have HW9 := Lib.hid hm5.1
      have HB9 := Lib.hid (HB8.out.trans (hm5.low HW8.out))
      have HBR5 := Lib.hid (HBR4.out.kept hs5 (fun b hb _ => hk5 b hb.1 hb.2))
      clear hm5 has5 hk5 HW8 HBR4
      go_wp2_with fail
      (with_reducible refine (raw_any HW9.out ba (saveB x.t).length bc (saveB x.t) HBR5.out (by simp [beB_len]; omega) (by omega)).mono ?_)
      rintro e u6 ⟨rfl, y6, hm6⟩
      have HWA := Lib.hid hm6.1
      have HBA := Lib.hid (HB9.out.trans (hm6.low HW9.out))
      clear hm6 HW9 HBR5
      go_wp2_with fail
      go_roundw
      case rel =>
        refine ⟨k + 1, by go_num, by omega, y6, ?_, HBA.out⟩
        have h9 := HWA.out
        rw [HBQ.out] at h9
        rw [take_oneB HX.out, oneB, rowB]
        simpa only [List.append_assoc] using h9
      case measure => simp [intOf]; omega
    · have hd : decide ((k : Int) < (n : Int)) = false := by simp; omega
      obtain rfl : k = n := by omega
      have hkl : S.l.take k = S.l := List.take_of_length_le (by have := HN.out; omega)
      rw [hkl] at HY hbl
      go_wp2_with fail
      (with_reducible refine (done_any HY.out (by rw [List.length_append]; omega)).mono ?_)
      rintro e u2 ⟨ba, bn, bc, rfl, hbc, hbr, hb6⟩
      have HBR := Lib.hid hbr
      have HB6 := Lib.hid hb6
      clear hbr hb6
      go_wp2_with fail
      go_ret
      have hs0 := HBY.out.size
      refine ⟨ba, bn, bc, rfl, hbc, ?_, HBY.out.trans (HB6.out.mono hs0)⟩
      have e : pre ++ S.l.flatMap oneB = saveSn S := by
        rw [HPRE.out, HN.out]
        unfold saveSn rowB
        simp
      have h9 := HBR.out
      rw [e] at h9
      exact h9.mono fun b hb => ⟨by omega, hb.2⟩
end
end Go.Proofs.YtpgklnhkfgbpgaaGreatDoor
namespace Go.Proofs.YtpgklnhkfgbpgaaGreatDoor
open Go.ChangeShapes Go.WideShapes Go.ChangeAt Go.RowKit
set_option linter.unusedVariables false
set_option linter.unusedSimpArgs false

theorem field_er (er n : Int) (da la : Option Addr) (dl dc ll lc : Nat) (x0 x1 x2 x3 x4 : Int) (x5 : Bool) (w : World) : (Instr.field 33 (.agg #[.int .i64 er, .int .i64 n, .slice da dl dc, .slice la ll lc, .int .i64 x0, .int .i64 x1, .int .i64 x2, .int .i64 x3, .int .u64 x4, .bool x5]) 0).run Tryz.prog w = .ok (.int .i64 er) w := by
  kernel_rfl
theorem field_n (er n : Int) (da la : Option Addr) (dl dc ll lc : Nat) (x0 x1 x2 x3 x4 : Int) (x5 : Bool) (w : World) : (Instr.field 33 (.agg #[.int .i64 er, .int .i64 n, .slice da dl dc, .slice la ll lc, .int .i64 x0, .int .i64 x1, .int .i64 x2, .int .i64 x3, .int .u64 x4, .bool x5]) 1).run Tryz.prog w = .ok (.int .i64 n) w := by
  kernel_rfl
end Go.Proofs.YtpgklnhkfgbpgaaGreatDoor
