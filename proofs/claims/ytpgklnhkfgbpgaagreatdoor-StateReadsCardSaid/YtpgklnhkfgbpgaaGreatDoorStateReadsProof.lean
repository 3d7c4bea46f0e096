/- For every input StateReads returns true, and its arguments read afterwards as before: no condition. -/
import Derived.Test.YtpgklnhkfgbpgaaGreatDoorM53
import Derived.Test.YtpgklnhkfgbpgaaGreatDoorM01
import Derived.SliceStrings
import Derived.Shelf.Vars
import Derived.Test.YtpgklnhkfgbpgaaGreatDoorM51
import Derived.Test.YtpgklnhkfgbpgaaGreatDoorM09
import Derived.Test.YtpgklnhkfgbpgaaGreatDoorM04
import Derived.Lib.Split
import Derived.Test.YtpgklnhkfgbpgaaGreatDoorCards
import Derived.Test.YtpgklnhkfgbpgaaGreatDoorTie
import Derived.Deep.DeepHandedRow
import Derived.Lib.LaidTab
namespace Go.Proofs.YtpgklnhkfgbpgaaGreatDoor
open Go.ChangeShapes Go.WideShapes Go.ChangeAt Go.RowKit
set_option linter.unusedVariables false
set_option linter.unusedSimpArgs false

theorem tame_any {S : Nat → Prop} (w : World) (x : OpM) (hx : OpRaw x) (da : Option Addr) (dc : Nat) (hdc : x.data.length ≤ dc) (hda : RowAt S w da x.data.length (x.data.map bv)) :
    Calls Tryz.prog 15 #[.agg (opC x da dc)] w (TameRet S w x da) := by
  obtain ⟨kd, pa, to_, fd, at_, nn, til, sn, dt⟩ := x
  exact tame_all w kd pa to_ fd at_ nn til sn dt hx da dc hdc hda
end Go.Proofs.YtpgklnhkfgbpgaaGreatDoor
namespace Go.Proofs.YtpgklnhkfgbpgaaGreatDoor
open Go.ChangeShapes Go.WideShapes Go.ChangeAt Go.RowKit
set_option linter.unusedVariables false

theorem maxLen_cell {w : World} (h : w.ShapedOpen Tryz.prog) : ∃ m, w.cell? ⟨0, 0, none⟩ = some (.int .i64 m) ∧ 0 < w.heap.size := by
  obtain ⟨m, hm⟩ := Go.Proofs.cell_of_shapedOpen_int (zero := #[.int .i64 0]) (t := 3) h (of_decide_eq_true (by kernel_rfl)) (by kernel_rfl) rfl (by kernel_rfl) (by kernel_rfl) Tryz.underlying3
  exact ⟨m, hm, World.block_lt_of_cell? w _ hm⟩

/-- A world for the witnesses: the two listed tables of unicode/utf8 hold what their text lays. -/
def layFirst : Obj → Obj
  | .cells _ t frozen => .cells ((Go.Pinned.utf8FirstZ.map fun (n : Nat) => Value.int .u8 (n : Int)).toArray) t frozen
  | o => o
def layRanges : Obj → Obj
  | .cells _ t frozen => .cells ((([128, 191, 160, 191, 128, 159, 144, 191, 128, 143, 0, 0, 0, 0, 0, 0, 0, 0, 0, 0, 0, 0, 0, 0, 0, 0, 0, 0, 0, 0, 0, 0] : List Nat).map fun (n : Nat) => Value.int .u8 (n : Int)).toArray) t frozen
  | o => o
noncomputable def laidBase (os : Os) : World :=
  { World.holding Tryz.prog os ⟨#[], #[], []⟩ with heap := ((World.holding Tryz.prog os ⟨#[], #[], []⟩).heap.modify 1 layFirst).modify 2 layRanges }

end Go.Proofs.YtpgklnhkfgbpgaaGreatDoor
namespace Go.Proofs.YtpgklnhkfgbpgaaGreatDoor
open Go.ChangeShapes Go.WideShapes Go.ChangeAt Go.RowKit
set_option linter.unusedVariables false
set_option linter.unusedSimpArgs false

/-- A tree of one file. -/
def oneT (d : List UInt8) (c : Bool) (u : Int) : TrM := [(0, ⟨2, 1, 0, true, [], [([97], 1)]⟩), (1, ⟨1, 1, u, c, d, []⟩)]
/-- One descriptor, the first. -/
def fd1 (f : Option FdM) : Nat → Option FdM := fun n => if n = 0 then f else none
theorem put_fd1 (M : StM) (f g : Option FdM) (h : M.fds = fd1 f) : M.put 0 g = { M with fds := fd1 g } := by
  unfold StM.put
  rw [h]
  congr 1
  funext n
  unfold fd1
  by_cases hn : n = 0
  · simp [hn]
  · simp [hn]
theorem fd1_none : fd1 none = fun _ => none := by funext n; unfold fd1; split <;> rfl
def stA (d : List UInt8) (c : Bool) (u : Int) (f : Option FdM) : StM := ⟨oneT d c u, newSn, 0, fd1 f⟩
theorem k14s1_eq : k14s1 = stA [] false 0 (some ⟨true, 1, []⟩) := by kernel_rfl
theorem k14r1_eq : k14r1 = ⟨0, 0, [], [], none⟩ := by kernel_rfl
theorem do_create : sdoM newSt k14a = (⟨0, 0, [], [], none⟩, stA [] false 0 (some ⟨true, 1, []⟩)) := by rw [k14e1, k14r1_eq, k14s1_eq]
def wrO (d : List UInt8) : OpM := ⟨5, [], [], 0, 0, 0, 0, 0, d⟩
def clO (u : Int) : OpM := ⟨6, [], [], 0, 0, 0, u, 0, []⟩
def opO_ : OpM := ⟨3, [47, 97], [], 0, 0, 0, 0, 0, []⟩
def rdO (a n : Int) : OpM := ⟨4, [], [], 0, a, n, 0, 0, []⟩
theorem wrO_ok (d : List UInt8) (h : d.length ≤ 1000000) : OpOk (wrO d) := by unfold wrO; exact opOk_small (by simp) (by simp) (by simp) (by simp) (by simp) (by simp) (by simp) (by simp) h
theorem clO_ok (u : Int) (h : 0 ≤ u ∧ u ≤ 18446744073709551615) : OpOk (clO u) := by unfold clO; exact opOk_small (by simp) (by simp) (by simp) (by simp) (by simp) h (by simp) (by simp) (by simp)
theorem opO_ok : OpOk opO_ := opOk_small (by decide) (by decide) (by decide) (by decide) (by decide) (by decide) (by decide) (by decide) (by decide)
theorem rdO_ok (a n : Int) (ha : 0 ≤ a ∧ a ≤ 1000000) (hn : 0 ≤ n ∧ n ≤ 1000000) : OpOk (rdO a n) := by unfold rdO; exact opOk_small (by simp) (by simp) ha hn (by simp) (by simp) (by simp) (by simp) (by simp)
theorem do_read {M : StM} {d : List UInt8} {id : Int} (h : M.fds 0 = some ⟨false, id, d⟩) (a n : Nat) : sdoM M (rdO a n) = (⟨0, ((d.drop a).take n).length, (d.drop a).take n, [], none⟩, M) := by
  show (sreadM M (rdO a n), M) = _
  have hg : getFd M 0 false = some ⟨false, id, d⟩ := by
    unfold getFd
    rw [if_pos (by omega)]
    show (match M.fds 0 with | some f => if f.wr = false then some f else none | none => none) = _
    rw [h]
    rfl
  unfold sreadM rdO
  dsimp only
  rw [hg]
  dsimp only
  have e1 : partE (a : Int) (n : Int) = 0 := if_neg (by omega)
  have e2 : partB d (a : Int) (n : Int) = (d.drop a).take n := by
    unfold partB
    rw [if_neg (by omega)]
    simp
  rw [e1, e2]
theorem one_append (d : List UInt8) (h : d.length ≤ 4096) : appendM (oneT [] false 0) 1 d = (0, oneT d false 0) := by
  have e : appendE (oneT [] false 0) 1 d = 0 := by
    show (if 4096 < ([] : List UInt8).length + d.length then (15 : Int) else 0) = 0
    rw [if_neg (by simp; omega)]
  unfold appendM
  rw [e, if_pos rfl]
  rfl
theorem one_seal (d : List UInt8) (u : Int) (h : u ≤ 1099511627776) : sealM (oneT d false 0) 1 u = (0, oneT d true u) := by
  have e : sealE (oneT d false 0) 1 u = 0 := by
    show (if 1099511627776 < u then (1 : Int) else 0) = 0
    rw [if_neg (by omega)]
  unfold sealM
  rw [e, if_pos rfl]
  rfl
theorem do_write (d : List UInt8) (h : d.length ≤ 600) : sdoM (stA [] false 0 (some ⟨true, 1, []⟩)) ⟨5, [], [], 0, 0, 0, 0, 0, d⟩ = (⟨0, d.length, [], [], none⟩, stA d false 0 (some ⟨true, 1, []⟩)) := by
  show swriteM (stA [] false 0 (some ⟨true, 1, []⟩)) ⟨5, [], [], 0, 0, 0, 0, 0, d⟩ = _
  have hg : getFd (stA [] false 0 (some ⟨true, 1, []⟩)) 0 true = some ⟨true, 1, []⟩ := rfl
  unfold swriteM
  dsimp only
  rw [hg]
  dsimp only
  rw [if_neg (by omega)]
  have ha : appendM (stA [] false 0 (some ⟨true, 1, []⟩)).t 1 d = (0, oneT d false 0) := one_append d (by omega)
  rw [ha]
  rfl
theorem do_close (d : List UInt8) (u : Int) (h : u ≤ 1099511627776) : sdoM (stA d false 0 (some ⟨true, 1, []⟩)) ⟨6, [], [], 0, 0, 0, u, 0, []⟩ = (noM 0, stA d true u none) := by
  show ofEr (scloseM (stA d false 0 (some ⟨true, 1, []⟩)) ⟨6, [], [], 0, 0, 0, u, 0, []⟩) = _
  have hg : getFd (stA d false 0 (some ⟨true, 1, []⟩)) 0 true = some ⟨true, 1, []⟩ := rfl
  unfold scloseM
  dsimp only
  rw [hg]
  dsimp only
  have hs : sealM (stA d false 0 (some ⟨true, 1, []⟩)).t 1 u = (0, oneT d true u) := one_seal d u h
  rw [hs]
  show ofEr (0, StM.put { (stA d false 0 (some ⟨true, 1, []⟩)) with t := oneT d true u } 0 none) = _
  rw [put_fd1 _ (some ⟨true, 1, []⟩) none rfl]
  rfl
theorem do_open (d : List UInt8) (u : Int) : sdoM (stA d true u none) ⟨3, [47, 97], [], 0, 0, 0, 0, 0, []⟩ = (⟨0, 0, [], [], none⟩, stA d true u (some ⟨false, 0, d⟩)) := by
  show sopenM (stA d true u none) [[97]] 0 = _
  have hr : readB (oneT d true u) 1 0 d.length = d := by
    show partB d 0 d.length = d
    unfold partB
    rw [if_neg (by omega)]
    simp
  have hf : freeI (stA d true u none) = 0 := by
    have e : stA d true u none = ⟨oneT d true u, newSn, 0, fun _ => none⟩ := by unfold stA; rw [fd1_none]
    rw [e]
    rfl
  have hl : lookE (oneT d true u) [[97]] = (1, 0) := rfl
  show (if freeI (stA d true u none) < 0 then (noM 25, stA d true u none) else openT (stA d true u none) (oneT d true u) [[97]]) = _
  rw [hf, if_neg (by omega)]
  have ha : aget (1 : Int) (oneT d true u) = some ⟨1, 1, u, true, d, []⟩ := rfl
  unfold openT
  rw [hl]
  dsimp only
  rw [if_neg (by simp), ha]
  dsimp only
  rw [if_neg (by simp), if_neg (by simp), hf, hr, show (0 : Int).toNat = 0 from rfl, put_fd1 _ none _ rfl]
  rfl
end Go.Proofs.YtpgklnhkfgbpgaaGreatDoor
namespace Go.Proofs.YtpgklnhkfgbpgaaGreatDoor
open Go.ChangeShapes Go.WideShapes Go.ChangeAt Go.RowKit
set_option linter.unusedVariables false

theorem strOf_data (l : List UInt8) : (strOf l).data.toList = l := rfl
theorem strOf_eta (s : ByteArray) : strOf s.data.toList = s := by cases s; rfl
theorem ret_str {a b : ByteArray} (h : a = b) : Ending.returned (.string a) = .returned (.string b) := by rw [h]
theorem head_any (s : ByteArray) (n : Int) (w : World) (h0 : 0 ≤ n) (hs : s.size ≤ maxLen) (hn : n ≤ 1000000) :
    Calls Tryz.prog 17 #[.string s, .int .i64 n] w fun e w' => e = .returned (.string (strOf (s.data.toList.take n.toNat))) ∧ w = w' := by
  unfold maxLen at hs
  have hl : s.data.toList.length = s.size := by simp
  by_cases h : n < (s.size : Int)
  · go_enter Tryz.func17, Tryz.ntmps17
    go_wp2
    go_ret
    refine ⟨ret_str (WideShapes.bytes_inj ?_), rfl⟩
    rw [Lib.extract_data, strOf_data]
    simp
  · go_enter Tryz.func17, Tryz.ntmps17
    go_wp2
    go_ret
    refine ⟨ret_str ?_, rfl⟩
    rw [List.take_of_length_le (by omega), strOf_eta]

end Go.Proofs.YtpgklnhkfgbpgaaGreatDoor
namespace Go.Proofs.YtpgklnhkfgbpgaaGreatDoor.stateReads
open Go.ChangeShapes Go.WideShapes Go.ChangeAt Go.RowKit
set_option linter.unusedVariables false
set_option linter.unusedSimpArgs false

set_option maxRecDepth 100000 in
theorem open_arg {H : Type} {enc : TypeId × Value → H} {W : World} {base : Nat} {v0 : Value} {d0 : DataW H} {p0 : List MemPlace} (h0 : DataW.Trod enc Tryz.prog W 0 (fun _ => true) true 23 v0 d0 p0) (l0 : ∀ x ∈ p0, x.block < W.heap.size) (o0 : Value.okWide Tryz.prog W .any base 23 v0) (hw : ∀ n ∈ d0.weights Tryz.prog 23, n ≤ reachBytes) :
    ∃ a len cap, v0 = .slice a len cap ∧ len ≤ cap ∧ OpsAt W a len := by
  obtain ⟨a0, len, cap, rfl⟩ := okWide_slice Tryz.underlying23 o0
  obtain ⟨fuel, hf⟩ := h0
  exact open_ops hf l0 hw
def fdsK (d : List UInt8) (M : StM) : Prop := M.fds 0 = some ⟨false, 0, d⟩
def RRel (W : World) (d : List UInt8) (p : Nat) (iv : Value) (wr : World) : Prop := ∃ (k : Nat) (o : Mark) (M : StM), iv = .int .i64 k ∧ k ≤ 40 ∧ StW W o 1 wr p (5 + k) M ∧ fdsK d M
def QRel (W : World) (d : List UInt8) (p g : Nat) (r : ReM) (da la : Option Addr) (dc lc : Nat) (M : StM) (av iv : Value) (wr : World) : Prop := ∃ (k : Nat) (o : Mark), iv = .int .i64 k ∧ k ≤ 60 ∧ av = .string (strOf (d.take (10 * k))) ∧ StW W o 1 wr p (50 + k) M ∧ RepV o wr g r da la dc lc
theorem take_more (d : List UInt8) (n : Nat) : d.take n ++ (d.drop (d.take n).length).take 10 = d.take (n + 10) := by
  by_cases h : n ≤ d.length
  · rw [List.length_take, Nat.min_eq_left h, List.take_add]
  · have h1 : d.take n = d := List.take_of_length_le (by omega)
    have h2 : d.take (n + 10) = d := List.take_of_length_le (by omega)
    rw [h1, h2, List.drop_of_length_le (Nat.le_refl _)]
    simp
set_option maxRecDepth 100000 in
set_option maxHeartbeats 64000000 in
theorem walk {H : Type} {enc : TypeId × Value → H} (W : World) (base : Nat) (hsh : W.ShapedOpen Tryz.prog) (v0 : Value) (d0 : DataW H) (p0 : List MemPlace) (o0 : Value.okWide Tryz.prog W .any base 22 v0) (h0 : DataW.Trod enc Tryz.prog W 0 (fun _ => true) true 22 v0 d0 p0) (l0 : ∀ x ∈ p0, x.block < W.heap.size) (v1 : Value) (d1 : DataW H) (p1 : List MemPlace) (o1 : Value.okWide Tryz.prog W .any base 23 v1) (h1 : DataW.Trod enc Tryz.prog W 0 (fun _ => true) true 23 v1 d1 p1) (l1 : ∀ x ∈ p1, x.block < W.heap.size) (a2 : Int) (w2 : (Lit.int .i64 a2).wf = true) (a3 : Int) (w3 : (Lit.int .i64 a3).wf = true) (hsz : (DataW.weightsEach Tryz.prog [22, 23, 3, 3] ([d0, d1, .lit (.int .i64 a2), .lit (.int .i64 a3)] : List (DataW H))).all (· ≤ reachBytes) = true) :
    Calls Tryz.prog 3 #[v0, v1, .int .i64 a2, .int .i64 a3] W (Fine W) := by
  obtain ⟨m, hm, -⟩ := maxLen_cell hsh
  obtain ⟨da, dn, dc, bs, rfl, hdc, hda⟩ : ∃ a len cap bs, v0 = .slice a len cap ∧ len ≤ cap ∧ RowAt (Old W) W a len ((bs : List UInt8).map bv) := by
    obtain ⟨a0, len, cap, rfl⟩ := okWide_slice Tryz.underlying22 o0
    obtain ⟨fuel, hf⟩ := h0
    exact open_bytesT hf l0
  obtain ⟨a, len, cap, rfl, hlc, hops⟩ := open_arg h1 l1 o1 (fun n hn => by
    rw [List.all_eq_true] at hsz
    exact of_decide_eq_true (hsz n (weightsEach_at (j := 1) rfl rfl n hn)))
  have hlm := hops.1
  unfold maxLen at hlm
  have HM := Lib.hid hm
  have HO := Lib.hid hops
  have HW2 := Lib.hid w2
  have HW3 := Lib.hid w3
  obtain ⟨d, hd⟩ : ∃ d, d = bs.take 500 := ⟨_, rfl⟩
  have hdl : min dn 500 = d.length := by rw [hd, List.length_take, show bs.length = dn by simpa using hda.length, Nat.min_comm]
  have HDA : Hid (RowAt (Old W) W da d.length (d.map bv)) := by
    have := hda.take 500
    rw [hdl, ← List.map_take, ← hd] at this
    exact this
  have hd5 : d.length ≤ 500 := by omega
  have HCUT : Hid (∀ w : World, Calls Tryz.prog 13 #[.slice da dn dc, .int .i64 500] w fun e w' => e = .returned (.slice da d.length dc) ∧ w = w') := fun w => by
    have := cut_any da dn dc 500 hdc (by omega) hda.small w
    rw [hdl] at this
    exact this
  have hdc2 : d.length ≤ dc := by omega
  clear hm hops o0 h0 l0 o1 h1 l1 hsz hsh w2 w3 hda hdl hd hdc
  go_enter Tryz.func3, Tryz.ntmps3
  go_wp2_with fail
  (with_reducible refine (st_new (i := 1) (marks0 W) (by omega)).mono ?_)
  rintro e w1 ⟨ps, o1, rfl, hs1, hS1⟩
  have HS1 := Lib.hid hS1
  clear hs1 hS1
  go_wp2_with fail
  (with_reducible refine (HCUT.out _).mono ?_)
  rintro e _ ⟨rfl, rfl⟩
  have HC2 := Lib.hid (st_doE0 HS1.out (by omega) (by omega) k14a (k14_ok _ (by simp)) m HM.out (opA 1 ⟨#[47, 97]⟩ ⟨#[]⟩ 0 0 0 0 0 none 0 0) rfl rfl do_create)
  go_wp2_with fail
  (with_reducible refine HC2.out.mono ?_)
  rintro e w2 ⟨o2, ⟨y2, rfl, da2, la2, dc2, lc2, rfl, p1, p2, p3, p4⟩, hs2, hS2⟩
  have HS2 := Lib.hid hS2
  have HR2 := Lib.hid (And.intro p1 (And.intro p2 (And.intro p3 p4)))
  clear hs2 hS2 p1 p2 p3 p4 HC2 HS1
  have HC3 := Lib.hid (st_doE HS2.out (by omega) (by omega) (wrO d) (wrO_ok d (by omega)) da dc (HDA.out.below HS2.out.below (Nat.le_refl _)) m HM.out (opA 5 ⟨#[]⟩ ⟨#[]⟩ 0 0 0 0 0 da d.length dc) rfl (do_write d (by omega)))
  go_wp2_with fail
  (with_reducible refine HC3.out.mono ?_)
  rintro e w3 ⟨o3, ⟨y3, rfl, da3, la3, dc3, lc3, rfl, p1, p2, p3, p4⟩, hs3, hS3⟩
  have HS3 := Lib.hid hS3
  have HR3 := Lib.hid (And.intro p1 (And.intro p2 (And.intro p3 p4)))
  clear hs3 hS3 p1 p2 p3 p4 HC3 HS2
  have HC4 := Lib.hid (st_doE0 HS3.out (by omega) (by omega) (clO 0) (clO_ok 0 (by omega)) m HM.out (opA 6 ⟨#[]⟩ ⟨#[]⟩ 0 0 0 0 0 none 0 0) rfl rfl (do_close d 0 (by omega)))
  go_wp2_with fail
  (with_reducible refine HC4.out.mono ?_)
  rintro e w4 ⟨o4, ⟨y4, rfl, da4, la4, dc4, lc4, rfl, p1, p2, p3, p4⟩, hs4, hS4⟩
  have HS4 := Lib.hid hS4
  have HR4 := Lib.hid (And.intro p1 (And.intro p2 (And.intro p3 p4)))
  clear hs4 hS4 p1 p2 p3 p4 HC4 HS3
  have HC5 := Lib.hid (st_doE0 HS4.out (by omega) (by omega) opO_ opO_ok m HM.out (opA 3 ⟨#[47, 97]⟩ ⟨#[]⟩ 0 0 0 0 0 none 0 0) rfl rfl (do_open d 0))
  go_wp2_with fail
  (with_reducible refine HC5.out.mono ?_)
  rintro e w5 ⟨o5, ⟨y5, rfl, da5, la5, dc5, lc5, rfl, p1, p2, p3, p4⟩, hs5, hS5⟩
  have HS5 := Lib.hid hS5
  have HR5 := Lib.hid (And.intro p1 (And.intro p2 (And.intro p3 p4)))
  clear hs5 hS5 p1 p2 p3 p4 HC5 HS4
  go_wp2_with (refine wpList_store_rep (by rfl) 33 _ _ (by rfl) _ (reC ⟨0, 0, [], [], none⟩ da5 la5 dc5 lc5) (by rfl) (by rfl) _ (MapKept.heap_alloc _ _).1 repSize rfl (reC_one _ _ _ _ _) ?_; intro w6 hs6; have HW6 := Lib.hid hs6; clear hs6; obtain ⟨hv6, hb6⟩ := rep_var HS5.out.marks HR5.out.1 HR5.out.2.1 HR5.out.2.2.1 HR5.out.2.2.2 HW6.out; have HV6 := Lib.hid hv6; have HS7 := Lib.hid (HS5.out.grow hb6); clear HS5; clear hv6 hb6 HW6 HR5; have c1 := HV6.out.er; have c2 := HV6.out.n)
  clear c1 c2
  have hd40 : (40 : Nat) ≤ 60 := by omega
  go_loopw [11, 12] (fun iv _ wr => RRel W d ps iv wr) (fun iv _ _ => 40 - (intOf iv).toNat)
  case atStart => exact ⟨0, _, _, rfl, by omega, HS7.out.mono (by omega), rfl⟩
  case round =>
    obtain ⟨k, o2, M, rfl, hk, hS, hfd⟩ := hrel
    have HS := Lib.hid hS
    have HFD := Lib.hid hfd
    have hbW := hS.below
    clear hS hfd
    by_cases hlt : k < len
    · by_cases h40 : k < 40
      · obtain ⟨b, off, rfl, hbl, hat⟩ := HO.out.2 (by omega)
        obtain ⟨x, xa, xc, hx⟩ := hat k hlt
        obtain ⟨d0, d1, d2, d3, d4, d5, d6, d7, d8⟩ := hx.up hbW hbl
        have HX := Lib.hid hx
        have hd1 : decide ((k : Int) < (len : Int)) = true := by simp; omega
        have hd2 : decide ((k : Int) < 40) = true := by simp; omega
        have i0 : (0 : Int) ≤ (k : Int) := by omega
        have i1 : (k : Int) < (len : Int) := by omega
        have HT := Lib.hid (tame_any wr x hx.ok xa xc hx.cap (hx.row.below hbW (Nat.le_refl _)))
        unfold opC at HT
        clear hx hat
        go_wp2_with fail
        (with_reducible refine HT.out.mono ?_)
        rintro e w2 ⟨y, yc, rfl, hty, hcap, hrow, hb2⟩
        have HTY := Lib.hid hty
        have HROW := Lib.hid hrow
        have HS2 := Lib.hid (HS.out.grow hb2)
        clear hty hcap hrow hb2 HT HS d0 d1 d2 d3 d4 d5 d6 d7 d8 hbW
        cases hk6 : (y.kind == 6)
        case false =>
          have hne : ¬ (y.kind = 6 ∧ y.fd.toNat = 0) := fun h => by rw [h.1] at hk6; cases hk6
          go_wp2_with (refine wpList_store_rep (by rfl) 36 _ _ (by rfl) _ (opC y xa yc) (by rfl) (by rfl) _ (MapKept.heap_alloc _ _).1 opSize rfl (opC_one _ _ _) ?_; intro w3 hs3; obtain ⟨o3, hs3', hv3⟩ := op_var HS2.out.marks 9 hs3; have HR3 := Lib.hid (HROW.out.below (hs3.below (wall w2 (.cells opZ 36)) (Nat.le_refl _)) (by have := HS2.out.below.size; omega)); have HV3 := Lib.hid hv3; have HS3 := Lib.hid (HS2.out.one (by omega) hs3'); have HC := Lib.hid (st_do HS3.out (by omega) (by omega) y (HTY.out.ok HX.out.ok) xa yc HR3.out m HM.out); unfold opC at HC; obtain ⟨y0, y1, y2, y3, y4, y5, y6, y7, y8, -⟩ := HV3.out.cells; clear hs3 hs3' hv3 HS2 HROW)
          (with_reducible refine HC.out.mono ?_)
          rintro e w5 ⟨o5, ⟨v5, rfl, da5, la5, dc5, lc5, rfl, -, -, -, -⟩, hs5, hS5⟩
          have hfd5 := (sdo_chg M y).fd HFD.out hne
          have HS5 := Lib.hid hS5
          have HFD5 := Lib.hid hfd5
          clear hs5 hS5 HC hfd5 y0 y1 y2 y3 y4 y5 y6 y7 y8 hne
          go_wp2_with fail
          go_roundw
          case rel => exact ⟨k + 1, _, _, by go_num, by omega, HS5.out.mono (by omega), HFD5.out⟩
          case measure => simp [intOf]; omega
        case true =>
          cases hf0 : (y.fd == 0)
          case false =>
            have hne : ¬ (y.kind = 6 ∧ y.fd.toNat = 0) := fun h => by
              have h1 := withinI_bd x.fd 0 3 (by omega)
              have h2 : y.fd ≠ 0 := by simpa using hf0
              have h3 := HTY.out.fd
              have h4 := h.2
              omega
            go_wp2_with (refine wpList_store_rep (by rfl) 36 _ _ (by rfl) _ (opC y xa yc) (by rfl) (by rfl) _ (MapKept.heap_alloc _ _).1 opSize rfl (opC_one _ _ _) ?_; intro w3 hs3; obtain ⟨o3, hs3', hv3⟩ := op_var HS2.out.marks 9 hs3; have HR3 := Lib.hid (HROW.out.below (hs3.below (wall w2 (.cells opZ 36)) (Nat.le_refl _)) (by have := HS2.out.below.size; omega)); have HV3 := Lib.hid hv3; have HS3 := Lib.hid (HS2.out.one (by omega) hs3'); have HC := Lib.hid (st_do HS3.out (by omega) (by omega) y (HTY.out.ok HX.out.ok) xa yc HR3.out m HM.out); unfold opC at HC; obtain ⟨y0, y1, y2, y3, y4, y5, y6, y7, y8, -⟩ := HV3.out.cells; clear hs3 hs3' hv3 HS2 HROW)
            (with_reducible refine HC.out.mono ?_)
            rintro e w5 ⟨o5, ⟨v5, rfl, da5, la5, dc5, lc5, rfl, -, -, -, -⟩, hs5, hS5⟩
            have hfd5 := (sdo_chg M y).fd HFD.out hne
            have HS5 := Lib.hid hS5
            have HFD5 := Lib.hid hfd5
            clear hs5 hS5 HC hfd5 y0 y1 y2 y3 y4 y5 y6 y7 y8 hne
            go_wp2_with fail
            go_roundw
            case rel => exact ⟨k + 1, _, _, by go_num, by omega, HS5.out.mono (by omega), HFD5.out⟩
            case measure => simp [intOf]; omega
          case true =>
            go_wp2_with (refine wpList_store_rep (by rfl) 36 _ _ (by rfl) _ (opC y xa yc) (by rfl) (by rfl) _ (MapKept.heap_alloc _ _).1 opSize rfl (opC_one _ _ _) ?_; intro w3 hs3; obtain ⟨o3, hs3', hv3⟩ := op_var HS2.out.marks 9 hs3; have HR3 := Lib.hid (HROW.out.below (hs3.below (wall w2 (.cells opZ 36)) (Nat.le_refl _)) (by have := HS2.out.below.size; omega)); have HV3 := Lib.hid hv3; have HS3 := Lib.hid (HS2.out.one (by omega) hs3'); have HC := Lib.hid (st_do HS3.out (by omega) (by omega) y (HTY.out.ok HX.out.ok) xa yc HR3.out m HM.out); unfold opC at HC; obtain ⟨y0, y1, y2, y3, y4, y5, y6, y7, y8, -⟩ := HV3.out.cells; clear hs3 hs3' hv3 HS2 HROW)
            go_roundw
            case rel => exact ⟨k + 1, _, M, by go_num, by omega, HS3.out.mono (by omega), HFD.out⟩
            case measure => simp [intOf]; omega
      · have hd1 : decide ((k : Int) < (len : Int)) = true := by simp; omega
        have hd2 : decide ((k : Int) < 40) = false := by simp; omega
        have hbs := HS.out.below
        clear hbW
        have HWA := Lib.hid (within_any a2 0 600 wr HW2.out (by omega) (by omega) (by omega))
        have HWN := Lib.hid (within_any a3 0 600 wr HW3.out (by omega) (by omega) (by omega))
        have bA := withinI_bd a2 0 600 (by omega)
        have bN := withinI_bd a3 0 600 (by omega)
        obtain ⟨A, hA⟩ : ∃ A : Nat, withinI a2 0 600 = A := ⟨(withinI a2 0 600).toNat, by omega⟩
        obtain ⟨N, hN⟩ : ∃ N : Nat, withinI a3 0 600 = N := ⟨(withinI a3 0 600).toNat, by omega⟩
        rw [hA] at HWA bA
        rw [hN] at HWN bN
        have HFD2 := HFD
        clear hA hN
        go_wp2_with fail
        (with_reducible refine HWA.out.mono ?_)
        rintro e _ ⟨rfl, rfl⟩
        go_wp2_with fail
        (with_reducible refine HWN.out.mono ?_)
        rintro e _ ⟨rfl, rfl⟩
        clear HWA HWN
        have HC := Lib.hid (st_doE0 HS.out (by omega) (by omega) (rdO A N) (rdO_ok A N (by omega) (by omega)) m HM.out (opA 4 ⟨#[]⟩ ⟨#[]⟩ 0 A N 0 0 none 0 0) rfl rfl (do_read HFD2.out A N))
        go_wp2_with fail
        (with_reducible refine HC.out.mono ?_)
        rintro e w5 ⟨o5, ⟨v5, rfl, da5, la5, dc5, lc5, rfl, p1, p2, p3, p4⟩, hs5, hS5⟩
        obtain ⟨R, hR⟩ : ∃ R, R = (d.drop A).take N := ⟨_, rfl⟩
        rw [← hR] at p1 p2 p3 p4 ⊢
        have HR5 := Lib.hid (And.intro p1 (And.intro p2 (And.intro p3 p4)))
        have HS5 := Lib.hid hS5
        have HRR := Lib.hid hR
        have hrl : R.length ≤ 500 := by rw [hR, List.length_take, List.length_drop]; omega
        clear hs5 hS5 p1 p2 p3 p4 HC HS hR
        by_cases hAd : A < d.length
        · have ed : decide ((A : Int) < (d.length : Int)) = true := by simp; omega
          have i0 : (0 : Int) ≤ (A : Int) := by omega
          have i1 : (A : Int) ≤ (d.length : Int) := by omega
          have i2 : (d.length : Int) ≤ (dc : Int) := by omega
          have i3 : ¬ (dc = A) := by omega
          obtain ⟨gb, goff, rfl, hgW, hgw, hgc⟩ := HDA.out.at_ (by omega)
          have HCV : Hid (∀ w', Below W.heap.size W w' → (convert 22 9 (.slice (some ⟨gb, goff + A, none⟩) (d.length - A) (dc - A))).run Tryz.prog w' = .ok (.string (strOf (d.drop A))) w') := fun w' hb => by
            have := (HDA.out.below hb (Nat.le_refl _)).drop A
            rw [← List.map_drop] at this
            exact conv_row this
          clear hgc
          go_wp2_with (refine wpList_store_rep (by rfl) 33 _ _ (by rfl) _ (reC ⟨0, R.length, R, [], none⟩ da5 la5 dc5 lc5) (by rfl) (by rfl) _ (MapKept.heap_alloc _ _).1 repSize rfl (reC_one _ _ _ _ _) ?_; intro w6 hs6; obtain ⟨hv6, hb6⟩ := rep_var HS5.out.marks HR5.out.1 HR5.out.2.1 HR5.out.2.2.1 HR5.out.2.2.2 hs6; have HV6 := Lib.hid hv6; have HS6 := Lib.hid (HS5.out.grow hb6); have hcv := HCV.out w6 HS6.out.below; clear hs6 hv6 hb6 HR5 HS5)
          have hhd : Calls Tryz.prog 17 #[.string (strOf (d.drop A)), .int .i64 N] w6 fun e w' => e = .returned (.string (strOf R)) ∧ w6 = w' := by
            have := head_any (strOf (d.drop A)) N w6 (by omega) (by rw [strOf_size, List.length_drop]; unfold maxLen; omega) (by omega)
            rw [show ((N : Int).toNat) = N from rfl, show (strOf (d.drop A)).data.toList = d.drop A from rfl, ← HRR.out] at this
            exact this
          have HHD := Lib.hid hhd
          clear hhd hcv HCV
          (with_reducible refine HHD.out.mono ?_)
          rintro e _ ⟨rfl, rfl⟩
          clear HHD
          have hg0 : w5.heap.size < w6.heap.size := HV6.out.low
          obtain ⟨rg, hrg⟩ : ∃ rg, rg = w5.heap.size := ⟨_, rfl⟩
          have HRG : Hid (RepV o5 w6 rg ⟨0, R.length, R, [], none⟩ da5 la5 dc5 lc5) := by rw [hrg]; exact HV6
          rw [← hrg]
          clear HV6 hrg hg0
          go_wp2_with fail
          go_loopw [15, 16, 17] (fun av iv _ wr => QRel W d ps rg ⟨0, R.length, R, [], none⟩ da5 la5 dc5 lc5 M av iv wr) (fun _ iv _ _ => 60 - (intOf iv).toNat)
          case atStart => exact ⟨0, o5, rfl, by omega, by simp [strOf], HS6.out.mono (by omega), HRG.out⟩
          case round =>
            obtain ⟨q, o7, rfl, hq, rfl, hS7, hV7⟩ := hrel
            have HS7 := Lib.hid hS7
            have HV7 := Lib.hid hV7
            clear hS7 hV7
            by_cases hq60 : q < 60
            · have hd60 : decide ((q : Int) < 60) = true := by simp; omega
              obtain ⟨T, hT⟩ : ∃ T, T = d.take (10 * q) := ⟨_, rfl⟩
              have HTT := Lib.hid hT
              have htl : T.length ≤ 500 := by rw [hT, List.length_take]; omega
              rw [← hT]
              obtain ⟨Q, hQ⟩ : ∃ Q, Q = (d.drop T.length).take 10 := ⟨_, rfl⟩
              have HQQ := Lib.hid hQ
              have hql : Q.length ≤ 10 := by rw [hQ, List.length_take]; omega
              have hrd := do_read HFD2.out T.length 10
              rw [← hQ] at hrd
              have HC2 := Lib.hid (st_doE0 HS7.out (by omega) (by omega) (rdO T.length 10) (rdO_ok T.length 10 (by omega) (by omega)) m HM.out (opA 4 ⟨#[]⟩ ⟨#[]⟩ 0 (strOf T).size 10 0 0 none 0 0) rfl rfl hrd)
              clear hT hQ hrd
              go_wp2_with fail
              (with_reducible refine HC2.out.mono ?_)
              rintro e w8 ⟨o8, ⟨v8, rfl, da8, la8, dc8, lc8, rfl, p1, p2, p3, p4⟩, hs8, hS8⟩
              have HR8 := Lib.hid (And.intro p1 (And.intro p2 (And.intro p3 p4)))
              have HS8 := Lib.hid hS8
              have HV8 := Lib.hid (HV7.out.five (by omega) hs8)
              have hn10 : decide ((10 : Int) < (Q.length : Int)) = false := by simp; omega
              have hcat : ¬ 9223372036854775807 < (strOf T).size + (strOf Q).size := by rw [strOf_size, strOf_size]; omega
              clear hs8 hS8 p1 p2 p3 p4 HC2 HS7 HV7
              go_wp2_with (refine wpList_store_rep (by rfl) 33 _ _ (by rfl) _ (reC ⟨0, Q.length, Q, [], none⟩ da8 la8 dc8 lc8) (by rfl) (by rfl) _ (MapKept.heap_alloc _ _).1 repSize rfl (reC_one _ _ _ _ _) ?_; intro w9 hs9; obtain ⟨hv9, hb9⟩ := rep_var HS8.out.marks HR8.out.1 HR8.out.2.1 HR8.out.2.2.1 HR8.out.2.2.2 hs9; have HV9 := Lib.hid (HV8.out.grow HS8.out.marks hb9); have HS9 := Lib.hid (HS8.out.grow hb9); have x1 := hv9.er; have x2 := hv9.n; have x3 := hv9.dat; have x4 := conv_row (c := dc8) hv9.data; dsimp only at x1 x2 x3 x4; clear hs9 hv9 hb9 HR8 HS8 HV8)
              go_roundw
              case rel =>
                refine ⟨q + 1, _, by go_num, by omega, ?_, HS9.out.mono (by omega), HV9.out⟩
                rw [strOf_append, HQQ.out, HTT.out, take_more]
                rfl
              case measure => simp [intOf]; omega
            · have hd60 : decide ((q : Int) < 60) = false := by simp; omega
              obtain rfl : q = 60 := by omega
              have hbW7 := HS7.out.below
              have x1 := HV7.out.er
              have x2 := HV7.out.n
              have x3 := HV7.out.dat
              have x4 := conv_row (c := dc5) HV7.out.data
              have x5 := conv_row (c := dc) (HDA.out.below hbW7 (Nat.le_refl _))
              have hall : d.take (10 * 60) = d := List.take_of_length_le (by omega)
              rw [hall]
              have hmr : wr.cell? ⟨0, 0, none⟩ = some (.int .i64 m) := (hbW7.cell (p := ⟨0, 0, none⟩) (World.block_lt_of_cell? W _ HM.out)).trans HM.out
              have HK := Lib.hid (known14_any wr m hmr)
              dsimp only at x1 x2 x3 x4
              clear hmr hall
              go_wp2_with fail
              (with_reducible refine HK.out.mono ?_)
              rintro e w2 ⟨rfl, hb2⟩
              go_wp2_with fail
              go_ret
              exact ⟨rfl, hbW7.trans (hb2.mono hbW7.size)⟩
        · have ed : decide ((A : Int) < (d.length : Int)) = false := by simp; omega
          have hR0 : Hid (R = []) := by
            have : R = [] := by rw [HRR.out, List.drop_of_length_le (by omega)]; simp
            exact Lib.hid this
          go_wp2_with (refine wpList_store_rep (by rfl) 33 _ _ (by rfl) _ (reC ⟨0, R.length, R, [], none⟩ da5 la5 dc5 lc5) (by rfl) (by rfl) _ (MapKept.heap_alloc _ _).1 repSize rfl (reC_one _ _ _ _ _) ?_; intro w6 hs6; obtain ⟨hv6, hb6⟩ := rep_var HS5.out.marks HR5.out.1 HR5.out.2.1 HR5.out.2.2.1 HR5.out.2.2.2 hs6; have HV6 := Lib.hid hv6; have HS6 := Lib.hid (HS5.out.grow hb6);  clear hs6 hv6 hb6 HR5 HS5)
          have hhd : Calls Tryz.prog 17 #[.string ⟨#[]⟩, .int .i64 N] w6 fun e w' => e = .returned (.string (strOf R)) ∧ w6 = w' := by
            have := head_any ⟨#[]⟩ N w6 (by omega) (by unfold maxLen; decide) (by omega)
            rw [hR0.out]
            simpa [strOf] using this
          have HHD := Lib.hid hhd
          clear hhd hR0
          (with_reducible refine HHD.out.mono ?_)
          rintro e _ ⟨rfl, rfl⟩
          clear HHD
          have hg0 : w5.heap.size < w6.heap.size := HV6.out.low
          obtain ⟨rg, hrg⟩ : ∃ rg, rg = w5.heap.size := ⟨_, rfl⟩
          have HRG : Hid (RepV o5 w6 rg ⟨0, R.length, R, [], none⟩ da5 la5 dc5 lc5) := by rw [hrg]; exact HV6
          rw [← hrg]
          clear HV6 hrg hg0
          go_wp2_with fail
          go_loopw [15, 16, 17] (fun av iv _ wr => QRel W d ps rg ⟨0, R.length, R, [], none⟩ da5 la5 dc5 lc5 M av iv wr) (fun _ iv _ _ => 60 - (intOf iv).toNat)
          case atStart => exact ⟨0, o5, rfl, by omega, by simp [strOf], HS6.out.mono (by omega), HRG.out⟩
          case round =>
            obtain ⟨q, o7, rfl, hq, rfl, hS7, hV7⟩ := hrel
            have HS7 := Lib.hid hS7
            have HV7 := Lib.hid hV7
            clear hS7 hV7
            by_cases hq60 : q < 60
            · have hd60 : decide ((q : Int) < 60) = true := by simp; omega
              obtain ⟨T, hT⟩ : ∃ T, T = d.take (10 * q) := ⟨_, rfl⟩
              have HTT := Lib.hid hT
              have htl : T.length ≤ 500 := by rw [hT, List.length_take]; omega
              rw [← hT]
              obtain ⟨Q, hQ⟩ : ∃ Q, Q = (d.drop T.length).take 10 := ⟨_, rfl⟩
              have HQQ := Lib.hid hQ
              have hql : Q.length ≤ 10 := by rw [hQ, List.length_take]; omega
              have hrd := do_read HFD2.out T.length 10
              rw [← hQ] at hrd
              have HC2 := Lib.hid (st_doE0 HS7.out (by omega) (by omega) (rdO T.length 10) (rdO_ok T.length 10 (by omega) (by omega)) m HM.out (opA 4 ⟨#[]⟩ ⟨#[]⟩ 0 (strOf T).size 10 0 0 none 0 0) rfl rfl hrd)
              clear hT hQ hrd
              go_wp2_with fail
              (with_reducible refine HC2.out.mono ?_)
              rintro e w8 ⟨o8, ⟨v8, rfl, da8, la8, dc8, lc8, rfl, p1, p2, p3, p4⟩, hs8, hS8⟩
              have HR8 := Lib.hid (And.intro p1 (And.intro p2 (And.intro p3 p4)))
              have HS8 := Lib.hid hS8
              have HV8 := Lib.hid (HV7.out.five (by omega) hs8)
              have hn10 : decide ((10 : Int) < (Q.length : Int)) = false := by simp; omega
              have hcat : ¬ 9223372036854775807 < (strOf T).size + (strOf Q).size := by rw [strOf_size, strOf_size]; omega
              clear hs8 hS8 p1 p2 p3 p4 HC2 HS7 HV7
              go_wp2_with (refine wpList_store_rep (by rfl) 33 _ _ (by rfl) _ (reC ⟨0, Q.length, Q, [], none⟩ da8 la8 dc8 lc8) (by rfl) (by rfl) _ (MapKept.heap_alloc _ _).1 repSize rfl (reC_one _ _ _ _ _) ?_; intro w9 hs9; obtain ⟨hv9, hb9⟩ := rep_var HS8.out.marks HR8.out.1 HR8.out.2.1 HR8.out.2.2.1 HR8.out.2.2.2 hs9; have HV9 := Lib.hid (HV8.out.grow HS8.out.marks hb9); have HS9 := Lib.hid (HS8.out.grow hb9); have x1 := hv9.er; have x2 := hv9.n; have x3 := hv9.dat; have x4 := conv_row (c := dc8) hv9.data; dsimp only at x1 x2 x3 x4; clear hs9 hv9 hb9 HR8 HS8 HV8)
              go_roundw
              case rel =>
                refine ⟨q + 1, _, by go_num, by omega, ?_, HS9.out.mono (by omega), HV9.out⟩
                rw [strOf_append, HQQ.out, HTT.out, take_more]
                rfl
              case measure => simp [intOf]; omega
            · have hd60 : decide ((q : Int) < 60) = false := by simp; omega
              obtain rfl : q = 60 := by omega
              have hbW7 := HS7.out.below
              have x1 := HV7.out.er
              have x2 := HV7.out.n
              have x3 := HV7.out.dat
              have x4 := conv_row (c := dc5) HV7.out.data
              have x5 := conv_row (c := dc) (HDA.out.below hbW7 (Nat.le_refl _))
              have hall : d.take (10 * 60) = d := List.take_of_length_le (by omega)
              rw [hall]
              have hmr : wr.cell? ⟨0, 0, none⟩ = some (.int .i64 m) := (hbW7.cell (p := ⟨0, 0, none⟩) (World.block_lt_of_cell? W _ HM.out)).trans HM.out
              have HK := Lib.hid (known14_any wr m hmr)
              dsimp only at x1 x2 x3 x4
              clear hmr hall
              go_wp2_with fail
              (with_reducible refine HK.out.mono ?_)
              rintro e w2 ⟨rfl, hb2⟩
              go_wp2_with fail
              go_ret
              exact ⟨rfl, hbW7.trans (hb2.mono hbW7.size)⟩
    · have hd1 : decide ((k : Int) < (len : Int)) = false := by simp; omega
      have hbs := HS.out.below
      clear hbW
      have HWA := Lib.hid (within_any a2 0 600 wr HW2.out (by omega) (by omega) (by omega))
      have HWN := Lib.hid (within_any a3 0 600 wr HW3.out (by omega) (by omega) (by omega))
      have bA := withinI_bd a2 0 600 (by omega)
      have bN := withinI_bd a3 0 600 (by omega)
      obtain ⟨A, hA⟩ : ∃ A : Nat, withinI a2 0 600 = A := ⟨(withinI a2 0 600).toNat, by omega⟩
      obtain ⟨N, hN⟩ : ∃ N : Nat, withinI a3 0 600 = N := ⟨(withinI a3 0 600).toNat, by omega⟩
      rw [hA] at HWA bA
      rw [hN] at HWN bN
      have HFD2 := HFD
      clear hA hN
      go_wp2_with fail
      (with_reducible refine HWA.out.mono ?_)
      rintro e _ ⟨rfl, rfl⟩
      go_wp2_with fail
      (with_reducible refine HWN.out.mono ?_)
      rintro e _ ⟨rfl, rfl⟩
      clear HWA HWN
      have HC := Lib.hid (st_doE0 HS.out (by omega) (by omega) (rdO A N) (rdO_ok A N (by omega) (by omega)) m HM.out (opA 4 ⟨#[]⟩ ⟨#[]⟩ 0 A N 0 0 none 0 0) rfl rfl (do_read HFD2.out A N))
      go_wp2_with fail
      (with_reducible refine HC.out.mono ?_)
      rintro e w5 ⟨o5, ⟨v5, rfl, da5, la5, dc5, lc5, rfl, p1, p2, p3, p4⟩, hs5, hS5⟩
      obtain ⟨R, hR⟩ : ∃ R, R = (d.drop A).take N := ⟨_, rfl⟩
      rw [← hR] at p1 p2 p3 p4 ⊢
      have HR5 := Lib.hid (And.intro p1 (And.intro p2 (And.intro p3 p4)))
      have HS5 := Lib.hid hS5
      have HRR := Lib.hid hR
      have hrl : R.length ≤ 500 := by rw [hR, List.length_take, List.length_drop]; omega
      clear hs5 hS5 p1 p2 p3 p4 HC HS hR
      by_cases hAd : A < d.length
      · have ed : decide ((A : Int) < (d.length : Int)) = true := by simp; omega
        have i0 : (0 : Int) ≤ (A : Int) := by omega
        have i1 : (A : Int) ≤ (d.length : Int) := by omega
        have i2 : (d.length : Int) ≤ (dc : Int) := by omega
        have i3 : ¬ (dc = A) := by omega
        obtain ⟨gb, goff, rfl, hgW, hgw, hgc⟩ := HDA.out.at_ (by omega)
        have HCV : Hid (∀ w', Below W.heap.size W w' → (convert 22 9 (.slice (some ⟨gb, goff + A, none⟩) (d.length - A) (dc - A))).run Tryz.prog w' = .ok (.string (strOf (d.drop A))) w') := fun w' hb => by
          have := (HDA.out.below hb (Nat.le_refl _)).drop A
          rw [← List.map_drop] at this
          exact conv_row this
        clear hgc
        go_wp2_with (refine wpList_store_rep (by rfl) 33 _ _ (by rfl) _ (reC ⟨0, R.length, R, [], none⟩ da5 la5 dc5 lc5) (by rfl) (by rfl) _ (MapKept.heap_alloc _ _).1 repSize rfl (reC_one _ _ _ _ _) ?_; intro w6 hs6; obtain ⟨hv6, hb6⟩ := rep_var HS5.out.marks HR5.out.1 HR5.out.2.1 HR5.out.2.2.1 HR5.out.2.2.2 hs6; have HV6 := Lib.hid hv6; have HS6 := Lib.hid (HS5.out.grow hb6); have hcv := HCV.out w6 HS6.out.below; clear hs6 hv6 hb6 HR5 HS5)
        have hhd : Calls Tryz.prog 17 #[.string (strOf (d.drop A)), .int .i64 N] w6 fun e w' => e = .returned (.string (strOf R)) ∧ w6 = w' := by
          have := head_any (strOf (d.drop A)) N w6 (by omega) (by rw [strOf_size, List.length_drop]; unfold maxLen; omega) (by omega)
          rw [show ((N : Int).toNat) = N from rfl, show (strOf (d.drop A)).data.toList = d.drop A from rfl, ← HRR.out] at this
          exact this
        have HHD := Lib.hid hhd
        clear hhd hcv HCV
        (with_reducible refine HHD.out.mono ?_)
        rintro e _ ⟨rfl, rfl⟩
        clear HHD
        have hg0 : w5.heap.size < w6.heap.size := HV6.out.low
        obtain ⟨rg, hrg⟩ : ∃ rg, rg = w5.heap.size := ⟨_, rfl⟩
        have HRG : Hid (RepV o5 w6 rg ⟨0, R.length, R, [], none⟩ da5 la5 dc5 lc5) := by rw [hrg]; exact HV6
        rw [← hrg]
        clear HV6 hrg hg0
        go_wp2_with fail
        go_loopw [15, 16, 17] (fun av iv _ wr => QRel W d ps rg ⟨0, R.length, R, [], none⟩ da5 la5 dc5 lc5 M av iv wr) (fun _ iv _ _ => 60 - (intOf iv).toNat)
        case atStart => exact ⟨0, o5, rfl, by omega, by simp [strOf], HS6.out.mono (by omega), HRG.out⟩
        case round =>
          obtain ⟨q, o7, rfl, hq, rfl, hS7, hV7⟩ := hrel
          have HS7 := Lib.hid hS7
          have HV7 := Lib.hid hV7
          clear hS7 hV7
          by_cases hq60 : q < 60
          · have hd60 : decide ((q : Int) < 60) = true := by simp; omega
            obtain ⟨T, hT⟩ : ∃ T, T = d.take (10 * q) := ⟨_, rfl⟩
            have HTT := Lib.hid hT
            have htl : T.length ≤ 500 := by rw [hT, List.length_take]; omega
            rw [← hT]
            obtain ⟨Q, hQ⟩ : ∃ Q, Q = (d.drop T.length).take 10 := ⟨_, rfl⟩
            have HQQ := Lib.hid hQ
            have hql : Q.length ≤ 10 := by rw [hQ, List.length_take]; omega
            have hrd := do_read HFD2.out T.length 10
            rw [← hQ] at hrd
            have HC2 := Lib.hid (st_doE0 HS7.out (by omega) (by omega) (rdO T.length 10) (rdO_ok T.length 10 (by omega) (by omega)) m HM.out (opA 4 ⟨#[]⟩ ⟨#[]⟩ 0 (strOf T).size 10 0 0 none 0 0) rfl rfl hrd)
            clear hT hQ hrd
            go_wp2_with fail
            (with_reducible refine HC2.out.mono ?_)
            rintro e w8 ⟨o8, ⟨v8, rfl, da8, la8, dc8, lc8, rfl, p1, p2, p3, p4⟩, hs8, hS8⟩
            have HR8 := Lib.hid (And.intro p1 (And.intro p2 (And.intro p3 p4)))
            have HS8 := Lib.hid hS8
            have HV8 := Lib.hid (HV7.out.five (by omega) hs8)
            have hn10 : decide ((10 : Int) < (Q.length : Int)) = false := by simp; omega
            have hcat : ¬ 9223372036854775807 < (strOf T).size + (strOf Q).size := by rw [strOf_size, strOf_size]; omega
            clear hs8 hS8 p1 p2 p3 p4 HC2 HS7 HV7
            go_wp2_with (refine wpList_store_rep (by rfl) 33 _ _ (by rfl) _ (reC ⟨0, Q.length, Q, [], none⟩ da8 la8 dc8 lc8) (by rfl) (by rfl) _ (MapKept.heap_alloc _ _).1 repSize rfl (reC_one _ _ _ _ _) ?_; intro w9 hs9; obtain ⟨hv9, hb9⟩ := rep_var HS8.out.marks HR8.out.1 HR8.out.2.1 HR8.out.2.2.1 HR8.out.2.2.2 hs9; have HV9 := Lib.hid (HV8.out.grow HS8.out.marks hb9); have HS9 := Lib.hid (HS8.out.grow hb9); have x1 := hv9.er; have x2 := hv9.n; have x3 := hv9.dat; have x4 := conv_row (c := dc8) hv9.data; dsimp only at x1 x2 x3 x4; clear hs9 hv9 hb9 HR8 HS8 HV8)
            go_roundw
            case rel =>
              refine ⟨q + 1, _, by go_num, by omega, ?_, HS9.out.mono (by omega), HV9.out⟩
              rw [strOf_append, HQQ.out, HTT.out, take_more]
              rfl
            case measure => simp [intOf]; omega
          · have hd60 : decide ((q : Int) < 60) = false := by simp; omega
            obtain rfl : q = 60 := by omega
            have hbW7 := HS7.out.below
            have x1 := HV7.out.er
            have x2 := HV7.out.n
            have x3 := HV7.out.dat
            have x4 := conv_row (c := dc5) HV7.out.data
            have x5 := conv_row (c := dc) (HDA.out.below hbW7 (Nat.le_refl _))
            have hall : d.take (10 * 60) = d := List.take_of_length_le (by omega)
            rw [hall]
            have hmr : wr.cell? ⟨0, 0, none⟩ = some (.int .i64 m) := (hbW7.cell (p := ⟨0, 0, none⟩) (World.block_lt_of_cell? W _ HM.out)).trans HM.out
            have HK := Lib.hid (known14_any wr m hmr)
            dsimp only at x1 x2 x3 x4
            clear hmr hall
            go_wp2_with fail
            (with_reducible refine HK.out.mono ?_)
            rintro e w2 ⟨rfl, hb2⟩
            go_wp2_with fail
            go_ret
            exact ⟨rfl, hbW7.trans (hb2.mono hbW7.size)⟩
      · have ed : decide ((A : Int) < (d.length : Int)) = false := by simp; omega
        have hR0 : Hid (R = []) := by
          have : R = [] := by rw [HRR.out, List.drop_of_length_le (by omega)]; simp
          exact Lib.hid this
        go_wp2_with (refine wpList_store_rep (by rfl) 33 _ _ (by rfl) _ (reC ⟨0, R.length, R, [], none⟩ da5 la5 dc5 lc5) (by rfl) (by rfl) _ (MapKept.heap_alloc _ _).1 repSize rfl (reC_one _ _ _ _ _) ?_; intro w6 hs6; obtain ⟨hv6, hb6⟩ := rep_var HS5.out.marks HR5.out.1 HR5.out.2.1 HR5.out.2.2.1 HR5.out.2.2.2 hs6; have HV6 := Lib.hid hv6; have HS6 := Lib.hid (HS5.out.grow hb6);  clear hs6 hv6 hb6 HR5 HS5)
        have hhd : Calls Tryz.prog 17 #[.string ⟨#[]⟩, .int .i64 N] w6 fun e w' => e = .returned (.string (strOf R)) ∧ w6 = w' := by
          have := head_any ⟨#[]⟩ N w6 (by omega) (by unfold maxLen; decide) (by omega)
          rw [hR0.out]
          simpa [strOf] using this
        have HHD := Lib.hid hhd
        clear hhd hR0
        (with_reducible refine HHD.out.mono ?_)
        rintro e _ ⟨rfl, rfl⟩
        clear HHD
        have hg0 : w5.heap.size < w6.heap.size := HV6.out.low
        obtain ⟨rg, hrg⟩ : ∃ rg, rg = w5.heap.size := ⟨_, rfl⟩
        have HRG : Hid (RepV o5 w6 rg ⟨0, R.length, R, [], none⟩ da5 la5 dc5 lc5) := by rw [hrg]; exact HV6
        rw [← hrg]
        clear HV6 hrg hg0
        go_wp2_with fail
        go_loopw [15, 16, 17] (fun av iv _ wr => QRel W d ps rg ⟨0, R.length, R, [], none⟩ da5 la5 dc5 lc5 M av iv wr) (fun _ iv _ _ => 60 - (intOf iv).toNat)
        case atStart => exact ⟨0, o5, rfl, by omega, by simp [strOf], HS6.out.mono (by omega), HRG.out⟩
        case round =>
          obtain ⟨q, o7, rfl, hq, rfl, hS7, hV7⟩ := hrel
          have HS7 := Lib.hid hS7
          have HV7 := Lib.hid hV7
          clear hS7 hV7
          by_cases hq60 : q < 60
          · have hd60 : decide ((q : Int) < 60) = true := by simp; omega
            obtain ⟨T, hT⟩ : ∃ T, T = d.take (10 * q) := ⟨_, rfl⟩
            have HTT := Lib.hid hT
            have htl : T.length ≤ 500 := by rw [hT, List.length_take]; omega
            rw [← hT]
            obtain ⟨Q, hQ⟩ : ∃ Q, Q = (d.drop T.length).take 10 := ⟨_, rfl⟩
            have HQQ := Lib.hid hQ
            have hql : Q.length ≤ 10 := by rw [hQ, List.length_take]; omega
            have hrd := do_read HFD2.out T.length 10
            rw [← hQ] at hrd
            have HC2 := Lib.hid (st_doE0 HS7.out (by omega) (by omega) (rdO T.length 10) (rdO_ok T.length 10 (by omega) (by omega)) m HM.out (opA 4 ⟨#[]⟩ ⟨#[]⟩ 0 (strOf T).size 10 0 0 none 0 0) rfl rfl hrd)
            clear hT hQ hrd
            go_wp2_with fail
            (with_reducible refine HC2.out.mono ?_)
            rintro e w8 ⟨o8, ⟨v8, rfl, da8, la8, dc8, lc8, rfl, p1, p2, p3, p4⟩, hs8, hS8⟩
            have HR8 := Lib.hid (And.intro p1 (And.intro p2 (And.intro p3 p4)))
            have HS8 := Lib.hid hS8
            have HV8 := Lib.hid (HV7.out.five (by omega) hs8)
            have hn10 : decide ((10 : Int) < (Q.length : Int)) = false := by simp; omega
            have hcat : ¬ 9223372036854775807 < (strOf T).size + (strOf Q).size := by rw [strOf_size, strOf_size]; omega
            clear hs8 hS8 p1 p2 p3 p4 HC2 HS7 HV7
            go_wp2_with (refine wpList_store_rep (by rfl) 33 _ _ (by rfl) _ (reC ⟨0, Q.length, Q, [], none⟩ da8 la8 dc8 lc8) (by rfl) (by rfl) _ (MapKept.heap_alloc _ _).1 repSize rfl (reC_one _ _ _ _ _) ?_; intro w9 hs9; obtain ⟨hv9, hb9⟩ := rep_var HS8.out.marks HR8.out.1 HR8.out.2.1 HR8.out.2.2.1 HR8.out.2.2.2 hs9; have HV9 := Lib.hid (HV8.out.grow HS8.out.marks hb9); have HS9 := Lib.hid (HS8.out.grow hb9); have x1 := hv9.er; have x2 := hv9.n; have x3 := hv9.dat; have x4 := conv_row (c := dc8) hv9.data; dsimp only at x1 x2 x3 x4; clear hs9 hv9 hb9 HR8 HS8 HV8)
            go_roundw
            case rel =>
              refine ⟨q + 1, _, by go_num, by omega, ?_, HS9.out.mono (by omega), HV9.out⟩
              rw [strOf_append, HQQ.out, HTT.out, take_more]
              rfl
            case measure => simp [intOf]; omega
          · have hd60 : decide ((q : Int) < 60) = false := by simp; omega
            obtain rfl : q = 60 := by omega
            have hbW7 := HS7.out.below
            have x1 := HV7.out.er
            have x2 := HV7.out.n
            have x3 := HV7.out.dat
            have x4 := conv_row (c := dc5) HV7.out.data
            have x5 := conv_row (c := dc) (HDA.out.below hbW7 (Nat.le_refl _))
            have hall : d.take (10 * 60) = d := List.take_of_length_le (by omega)
            rw [hall]
            have hmr : wr.cell? ⟨0, 0, none⟩ = some (.int .i64 m) := (hbW7.cell (p := ⟨0, 0, none⟩) (World.block_lt_of_cell? W _ HM.out)).trans HM.out
            have HK := Lib.hid (known14_any wr m hmr)
            dsimp only at x1 x2 x3 x4
            clear hmr hall
            go_wp2_with fail
            (with_reducible refine HK.out.mono ?_)
            rintro e w2 ⟨rfl, hb2⟩
            go_wp2_with fail
            go_ret
            exact ⟨rfl, hbW7.trans (hb2.mono hbW7.size)⟩
end Go.Proofs.YtpgklnhkfgbpgaaGreatDoor.stateReads
namespace Go.Proofs.YtpgklnhkfgbpgaaGreatDoor.stateReads
open Go.ChangeShapes Go.WideShapes Go.ChangeAt Go.RowKit
set_option linter.unusedVariables false
theorem readable : Readable Tryz.prog Tryz.f3.params.toList := by
  rw [Tryz.params3]
  intro t ht
  simp only [List.mem_cons, List.not_mem_nil, or_false] at ht
  rcases ht with rfl | rfl | rfl | rfl <;> exact ⟨by kernel_rfl, of_decide_eq_true (by kernel_rfl)⟩
set_option maxRecDepth 100000 in
/-- A world for the witness: the settled one, the listed tables holding what their text lays. -/
noncomputable def laidWorld (os : Os) : World := laidBase os
theorem laid_met (os : Os) : laidMet Tryz.prog Rows.stateReadsRow.laid ((laidWorld os).forCall (fun _ _ => 0) ⟨#[], #[.slice none 0 0, .slice none 0 0, .int .i64 0, .int .i64 0], []⟩).memory :=
  laidMet_of_run' 8 (by kernel_rfl) (by kernel_rfl)
theorem reads (os : Os) {H : Type} (enc : TypeId × Value → H) : ∃ places, DataW.whole enc Tryz.prog ((laidWorld os).forCall (fun _ _ => 0) ⟨#[], #[.slice none 0 0, .slice none 0 0, .int .i64 0, .int .i64 0], []⟩).memory Tryz.f3.params.toList Rows.stateReadsSpec.vars false (#[.slice none 0 0, .slice none 0 0, .int .i64 0, .int .i64 0] : Array Value).toList 8 = some ([.nil, .nil, .lit (.int .i64 0), .lit (.int .i64 0)], [], places) :=
  ⟨[], by kernel_rfl⟩
set_option maxRecDepth 100000 in
theorem lifted (os : Os) (started : os.Started) (H : Type) (enc : TypeId × Value → H) (F : Stop.Interp) :
    ReturnsInHanded {} Tryz.checked os 3 .any ((OpenSpec.ofChange Rows.stateReadsSpec).preRow enc Tryz.prog Tryz.f3 Rows.stateReadsRow.domain false Rows.stateReadsRow.laid) (((OpenSpec.ofChange Rows.stateReadsSpec).at F).post enc Tryz.prog Tryz.f3 false true false false) := by
  obtain ⟨places, hx⟩ := reads os enc
  refine returnsInHanded_of_row (C := Tryz.checked) (s := OpenSpec.ofChange Rows.stateReadsSpec) own started (by kernel_rfl) Tryz.func3
    (witness_row_at (enc := enc) (C := Tryz.checked) false (laidWorld os) #[.slice none 0 0, .slice none 0 0, .int .i64 0, .int .i64 0] rfl (by kernel_rfl) (by kernel_rfl) (by kernel_rfl)
      (OpenSpec.preRow_of_cond 8 hx (by kernel_rfl) (fun k hk => by cases hk) (by kernel_rfl) (laid_met os))) ?_
  intro W base args ds gs before hval0 hW hcnd hcond hsz0 hL hsh _
  have hval : ∀ (j : Nat) t v, Tryz.f3.params[j]? = some t → args[j]? = some v → Value.okWide Tryz.prog W .any base t v := hval0
  have hW' := hW
  obtain ⟨p, q, hA0, hV, rfl, hfz, hnd⟩ := hW
  have hA : DataW.TrodAll enc Tryz.prog W 0 (fun _ => true) true Tryz.f3.params.toList args.toList ds p := hA0
  have hlt := hW'.lt
  have hsz : (DataW.weightsEach Tryz.prog (Tryz.f3.params.toList ++ []) (ds ++ gs)).all (· ≤ reachBytes) = true := hsz0
  rw [Tryz.params3] at hA hval hsz
  obtain ⟨v0, vs0, d0, ds0, p0, q0, hargs, rfl, rfl, h0, r0⟩ := trodAll_cons hA
  obtain ⟨v1, vs1, d1, ds1, p1, q1, rfl, rfl, rfl, h1, r1⟩ := trodAll_cons r0
  obtain ⟨v2, vs2, d2, ds2, p2, q2, rfl, rfl, rfl, h2, r2⟩ := trodAll_cons r1
  obtain ⟨v3, vs3, d3, ds3, p3, q3, rfl, rfl, rfl, h3, r3⟩ := trodAll_cons r2
  obtain ⟨rfl, rfl, rfl⟩ := trodAll_nil r3
  obtain rfl : args = #[v0, v1, v2, v3] := by cases args; simp_all
  obtain ⟨rfl, rfl⟩ := trodVars_none hV
  obtain ⟨a2, rfl, rfl, rfl, w2⟩ := open_int Tryz.underlying3 (hval 2 3 v2 rfl rfl) h2
  obtain ⟨a3, rfl, rfl, rfl, w3⟩ := open_int Tryz.underlying3 (hval 3 3 v3 rfl rfl) h3
  clear hA0 hval0
  simp only [List.append_nil] at hlt hsz
  refine (walk W base hsh v0 d0 p0 (hval 0 22 v0 rfl rfl) h0 (fun x hx => hlt x (by simp [hx])) v1 d1 p1 (hval 1 23 v1 rfl rfl) h1 (fun x hx => hlt x (by simp [hx])) a2 w2 a3 w3 hsz).mono fun e W' ⟨he, hb⟩ => ⟨_, he, law_post (P := Tryz.prog) laidOut readable rfl hW' hb (T := 4) rfl Tryz.underlying4 rfl⟩
theorem said : Rows.StateReadsSaid :=
  OpenClaim.holds_of_cond 3 Tryz.f3 rfl rfl rfl rfl rfl rfl rfl ⟨rfl, rfl, rfl, rfl, rfl⟩ rfl rfl rfl rfl rfl (by kernel_rfl) Tryz.func3 (by kernel_rfl)
    (of_decide_eq_true (by kernel_rfl)) (by unfold Func.isWrapper; rw [if_neg (of_decide_eq_false (by kernel_rfl))]; exact ⟨rfl, rfl⟩)
    (fun os started H enc _ F => by rw [OpenClaim.pre_eq_preRow]; exact lifted os started H enc F)
theorem plain (f : FuncId) (fn : Func) (hf : Tryz.pinned.checked.prog.funcNamed "permafrost/permafrostlaw14.StateReads" = some f) (hfn : Tryz.pinned.checked.prog.funcs[f]? = some fn) :
    true = Tryz.pinned.checked.prog.looks [] ∧ ∀ (j : Nat) t, fn.params[j]? = some t → Tryz.pinned.checked.prog.wantsStandIn t = false := by
  obtain rfl : f = 3 := Option.some.inj ((show Tryz.prog.funcNamed "permafrost/permafrostlaw14.StateReads" = some 3 by kernel_rfl).symm.trans hf) |>.symm
  obtain rfl : fn = Tryz.f3 := (Option.some.inj (Tryz.func3.symm.trans hfn)).symm
  refine ⟨by kernel_rfl, fun j t ht => ?_⟩
  rw [Tryz.params3] at ht
  have hm := Array.mem_of_getElem? ht
  simp only [List.mem_toArray, List.mem_cons, List.not_mem_nil, or_false] at hm
  rcases hm with rfl | rfl | rfl | rfl
  · exact (show Tryz.prog.wantsStandIn 22 = false by kernel_rfl)
  · exact (show Tryz.prog.wantsStandIn 23 = false by kernel_rfl)
  · exact (show Tryz.prog.wantsStandIn 3 = false by kernel_rfl)
  · exact (show Tryz.prog.wantsStandIn 3 = false by kernel_rfl)
/-- The statement: the card. -/
theorem proved : Rows.StateReadsCardSaid :=
  Claim7.holds_tied_plain_at .later [] _ _ _ _ said (fun _ h => by cases h) (by kernel_rfl) (fun _ h => by cases h) stateReads_row_tie rfl ⟨rfl, rfl⟩ (by kernel_rfl) rfl plain (by kernel_rfl)
#print axioms proved
end Go.Proofs.YtpgklnhkfgbpgaaGreatDoor.stateReads
