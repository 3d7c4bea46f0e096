/- package state: a state of one file, "/a", plainly. package state: a snapshot of one file, plainly. -/
import Derived.Test.YtpgklnhkfgbpgaaGreatDoorM45
namespace Go.Proofs.YtpgklnhkfgbpgaaGreatDoor
open Go.ChangeShapes Go.WideShapes Go.ChangeAt Go.RowKit
set_option linter.unusedVariables false
set_option linter.unusedSimpArgs false

/-- A tree of one file. -/
def oneT (d : List UInt8) (c : Bool) (u : Int) : TrM := [(0, ⟨2, 1, 0, true, [], [([97], 1)]⟩), (1, ⟨1, 1, u, c, d, []⟩)]
/-- One descriptor, the first. -/
def fd1 (f : Option FdM) : Nat → Option FdM := fun n => if n = 0 then f else none
theorem put_fd1 (M : StM) (f g : Option FdM) (h : M.fds = fd1 f) : M.put 0 g = { M with fds := fd1 g } := by
  unfold StM.put
  rw [h]
  congr 1
  funext n
  unfold fd1
  by_cases hn : n = 0
  · simp [hn]
  · simp [hn]
theorem fd1_none : fd1 none = fun _ => none := by funext n; unfold fd1; split <;> rfl
def stA (d : List UInt8) (c : Bool) (u : Int) (f : Option FdM) : StM := ⟨oneT d c u, newSn, 0, fd1 f⟩
theorem k14s1_eq : k14s1 = stA [] false 0 (some ⟨true, 1, []⟩) := by kernel_rfl
theorem k14r1_eq : k14r1 = ⟨0, 0, [], [], none⟩ := by kernel_rfl
theorem do_create : sdoM newSt k14a = (⟨0, 0, [], [], none⟩, stA [] false 0 (some ⟨true, 1, []⟩)) := by rw [k14e1, k14r1_eq, k14s1_eq]
def wrO (d : List UInt8) : OpM := ⟨5, [], [], 0, 0, 0, 0, 0, d⟩
def clO (u : Int) : OpM := ⟨6, [], [], 0, 0, 0, u, 0, []⟩
def rdO (a n : Int) : OpM := ⟨4, [], [], 0, a, n, 0, 0, []⟩
theorem wrO_ok (d : List UInt8) (h : d.length ≤ 1000000) : OpOk (wrO d) := by unfold wrO; exact opOk_small (by simp) (by simp) (by simp) (by simp) (by simp) (by simp) (by simp) (by simp) h
theorem clO_ok (u : Int) (h : 0 ≤ u ∧ u ≤ 18446744073709551615) : OpOk (clO u) := by unfold clO; exact opOk_small (by simp) (by simp) (by simp) (by simp) (by simp) h (by simp) (by simp) (by simp)
theorem rdO_ok (a n : Int) (ha : 0 ≤ a ∧ a ≤ 1000000) (hn : 0 ≤ n ∧ n ≤ 1000000) : OpOk (rdO a n) := by unfold rdO; exact opOk_small (by simp) (by simp) ha hn (by simp) (by simp) (by simp) (by simp) (by simp)
theorem do_read {M : StM} {d : List UInt8} {id : Int} (h : M.fds 0 = some ⟨false, id, d⟩) (a n : Nat) : sdoM M (rdO a n) = (⟨0, ((d.drop a).take n).length, (d.drop a).take n, [], none⟩, M) := by
  show (sreadM M (rdO a n), M) = _
  have hg : getFd M 0 false = some ⟨false, id, d⟩ := by
    unfold getFd
    rw [if_pos (by omega)]
    show (match M.fds 0 with | some f => if f.wr = false then some f else none | none => none) = _
    rw [h]
    rfl
  unfold sreadM rdO
  dsimp only
  rw [hg]
  dsimp only
  have e1 : partE (a : Int) (n : Int) = 0 := if_neg (by omega)
  have e2 : partB d (a : Int) (n : Int) = (d.drop a).take n := by
    unfold partB
    rw [if_neg (by omega)]
    simp
  rw [e1, e2]
theorem one_append (d : List UInt8) (h : d.length ≤ 4096) : appendM (oneT [] false 0) 1 d = (0, oneT d false 0) := by
  have e : appendE (oneT [] false 0) 1 d = 0 := by
    show (if 4096 < ([] : List UInt8).length + d.length then (15 : Int) else 0) = 0
    rw [if_neg (by simp; omega)]
  unfold appendM
  rw [e, if_pos rfl]
  rfl
theorem one_seal (d : List UInt8) (u : Int) (h : u ≤ 1099511627776) : sealM (oneT d false 0) 1 u = (0, oneT d true u) := by
  have e : sealE (oneT d false 0) 1 u = 0 := by
    show (if 1099511627776 < u then (1 : Int) else 0) = 0
    rw [if_neg (by omega)]
  unfold sealM
  rw [e, if_pos rfl]
  rfl
theorem do_write (d : List UInt8) (h : d.length ≤ 600) : sdoM (stA [] false 0 (some ⟨true, 1, []⟩)) ⟨5, [], [], 0, 0, 0, 0, 0, d⟩ = (⟨0, d.length, [], [], none⟩, stA d false 0 (some ⟨true, 1, []⟩)) := by
  show swriteM (stA [] false 0 (some ⟨true, 1, []⟩)) ⟨5, [], [], 0, 0, 0, 0, 0, d⟩ = _
  have hg : getFd (stA [] false 0 (some ⟨true, 1, []⟩)) 0 true = some ⟨true, 1, []⟩ := rfl
  unfold swriteM
  dsimp only
  rw [hg]
  dsimp only
  rw [if_neg (by omega)]
  have ha : appendM (stA [] false 0 (some ⟨true, 1, []⟩)).t 1 d = (0, oneT d false 0) := one_append d (by omega)
  rw [ha]
  rfl
theorem do_close (d : List UInt8) (u : Int) (h : u ≤ 1099511627776) : sdoM (stA d false 0 (some ⟨true, 1, []⟩)) ⟨6, [], [], 0, 0, 0, u, 0, []⟩ = (noM 0, stA d true u none) := by
  show ofEr (scloseM (stA d false 0 (some ⟨true, 1, []⟩)) ⟨6, [], [], 0, 0, 0, u, 0, []⟩) = _
  have hg : getFd (stA d false 0 (some ⟨true, 1, []⟩)) 0 true = some ⟨true, 1, []⟩ := rfl
  unfold scloseM
  dsimp only
  rw [hg]
  dsimp only
  have hs : sealM (stA d false 0 (some ⟨true, 1, []⟩)).t 1 u = (0, oneT d true u) := one_seal d u h
  rw [hs]
  show ofEr (0, StM.put { (stA d false 0 (some ⟨true, 1, []⟩)) with t := oneT d true u } 0 none) = _
  rw [put_fd1 _ (some ⟨true, 1, []⟩) none rfl]
  rfl
end Go.Proofs.YtpgklnhkfgbpgaaGreatDoor
namespace Go.Proofs.YtpgklnhkfgbpgaaGreatDoor
open Go.ChangeShapes Go.WideShapes Go.ChangeAt Go.RowKit
set_option linter.unusedVariables false
set_option linter.unusedSimpArgs false

def stB (T : TrM) (S : SnM) (now : Int) (f : Option FdM) : StM := ⟨T, S, now, fd1 f⟩
def hashT (T : TrM) : List UInt8 := shaM (saveB T)
theorem oneT_commit (d : List UInt8) (u : Int) : commitM (oneT d true u) = oneT d true u := rfl
def snB (d : List UInt8) (u : Int) : SnM := ⟨[⟨1, hashT (oneT d true u), oneT d true u⟩], 2, hashT (oneT d true u)⟩
def tkO : OpM := ⟨14, [], [], 0, 0, 0, 0, 0, []⟩
def tiO (n : Int) : OpM := ⟨16, [], [], 0, 0, 0, n, 0, []⟩
def unO : OpM := ⟨8, [47, 97], [], 0, 0, 0, 0, 0, []⟩
def opS (s : Int) : OpM := ⟨3, [47, 97], [], 0, 0, 0, 0, s, []⟩
def fgO (s : Int) : OpM := ⟨15, [], [], 0, 0, 0, 0, s, []⟩
def stO (s : Int) : OpM := ⟨12, [47, 97], [], 0, 0, 0, 0, s, []⟩
theorem tkO_ok : OpOk tkO := by unfold tkO; exact opOk_small (by simp) (by simp) (by simp) (by simp) (by simp) (by simp) (by simp) (by simp) (by simp)
theorem tiO_ok (n : Int) (h : 0 ≤ n ∧ n ≤ 18446744073709551615) : OpOk (tiO n) := by unfold tiO; exact opOk_small (by simp) (by simp) (by simp) (by simp) (by simp) h (by simp) (by simp) (by simp)
theorem unO_ok : OpOk unO := by unfold unO; exact opOk_small (by simp) (by simp) (by simp) (by simp) (by simp) (by simp) (by simp) (by simp) (by simp)
theorem opS_ok (s : Int) (h : 0 ≤ s ∧ s ≤ 1000000) : OpOk (opS s) := by unfold opS; exact opOk_small (by simp) (by simp) (by simp) (by simp) h (by simp) (by simp) (by simp) (by simp)
theorem fgO_ok (s : Int) (h : 0 ≤ s ∧ s ≤ 1000000) : OpOk (fgO s) := by unfold fgO; exact opOk_small (by simp) (by simp) (by simp) (by simp) h (by simp) (by simp) (by simp) (by simp)
theorem stO_ok (s : Int) (h : 0 ≤ s ∧ s ≤ 1000000) : OpOk (stO s) := by unfold stO; exact opOk_small (by simp) (by simp) (by simp) (by simp) h (by simp) (by simp) (by simp) (by simp)
theorem take_one (d : List UInt8) (u : Int) : takeM newSn (oneT d true u) = ((1, 0), snB d u) := by
  unfold takeM
  rw [if_neg (by simp [newSn]), oneT_commit]
  rfl
theorem do_take (d : List UInt8) (u : Int) : sdoM (stB (oneT d true u) newSn 0 none) tkO = (⟨0, 1, [], [], none⟩, stB (oneT d true u) (snB d u) 0 none) := by
  show ((⟨(takeM newSn (oneT d true u)).1.2, (takeM newSn (oneT d true u)).1.1, [], [], none⟩ : ReM), (stB (oneT d true u) newSn 0 none).sn (takeM newSn (oneT d true u)).2) = _
  rw [take_one]
  rfl
theorem do_tick (T : TrM) (S : SnM) (f : Option FdM) (n : Int) (h0 : 0 ≤ n) (h1 : n ≤ 1099511627776) : sdoM (stB T S 0 f) (tiO n) = (noM 0, stB T S n f) := by
  show (noM 0, { stB T S 0 f with now := nextM 0 n }) = _
  have : nextM 0 n = n := by
    unfold nextM
    rw [if_pos h1, if_pos h0]
  rw [this]
  rfl
theorem one_node (d : List UInt8) (u : Int) : nodeAtX (oneT d true u) [[97]] = ⟨1, 1, 1, d.length, u, true, 0⟩ := rfl
theorem do_unlink_kept (d : List UInt8) (u n : Int) (S : SnM) (h : n < u) : sdoM (stB (oneT d true u) S n none) unO = (noM 28, stB (oneT d true u) S n none) := by
  show ofEr (sunlinkM (stB (oneT d true u) S n none) [[97]]) = _
  have hn : nodeAtX (stB (oneT d true u) S n none).t [[97]] = ⟨1, 1, 1, d.length, u, true, 0⟩ := one_node d u
  have hr : removeOf 1 1 u true n = 28 := by simp [removeOf, kindOf, h]
  unfold sunlinkM
  rw [hn]
  dsimp only
  rw [show (stB (oneT d true u) S n none).now = n from rfl, hr]
  rfl
theorem do_unlink_gone (d : List UInt8) (u n : Int) (S : SnM) (h : ¬ n < u) : sdoM (stB (oneT d true u) S n none) unO = (noM 0, stB newM S n none) := by
  show ofEr (sunlinkM (stB (oneT d true u) S n none) [[97]]) = _
  have hn : nodeAtX (stB (oneT d true u) S n none).t [[97]] = ⟨1, 1, 1, d.length, u, true, 0⟩ := one_node d u
  have hr : removeOf 1 1 u true n = 0 := by simp [removeOf, kindOf, h]
  have hu : unlinkM (oneT d true u) [[97]] = (0, newM) := rfl
  unfold sunlinkM
  rw [hn]
  dsimp only
  rw [show (stB (oneT d true u) S n none).now = n from rfl, hr]
  show ofEr ((unlinkM (oneT d true u) [[97]]).1, { (stB (oneT d true u) S n none) with t := (unlinkM (oneT d true u) [[97]]).2 }) = _
  rw [hu]
  rfl
theorem do_openS (T : TrM) (d : List UInt8) (u n : Int) : sdoM (stB T (snB d u) n none) (opS 1) = (⟨0, 0, [], [], none⟩, stB T (snB d u) n (some ⟨false, 0, d⟩)) := by
  show sopenM (stB T (snB d u) n none) [[97]] 1 = _
  have hr : readB (oneT d true u) 1 0 d.length = d := by
    show partB d 0 d.length = d
    unfold partB
    rw [if_neg (by omega)]
    simp
  have hf : freeI (stB T (snB d u) n none) = 0 := by
    have e : stB T (snB d u) n none = ⟨T, snB d u, n, fun _ => none⟩ := by unfold stB; rw [fd1_none]
    rw [e]
    rfl
  have hl : lookE (oneT d true u) [[97]] = (1, 0) := rfl
  have ha : aget (1 : Int) (oneT d true u) = some ⟨1, 1, u, true, d, []⟩ := rfl
  show (if freeI (stB T (snB d u) n none) < 0 then (noM 25, stB T (snB d u) n none) else openT (stB T (snB d u) n none) (oneT d true u) [[97]]) = _
  rw [hf, if_neg (by omega)]
  unfold openT
  rw [hl]
  dsimp only
  rw [if_neg (by simp), ha]
  dsimp only
  rw [if_neg (by simp), if_neg (by simp), hf, hr, show (0 : Int).toNat = 0 from rfl, put_fd1 _ none _ rfl]
  rfl
theorem one_bound (d : List UInt8) (u n : Int) : boundM (oneT d true u) n = decide (n < u) := by
  unfold boundM
  by_cases h : n < u
  · have : liveM (oneT d true u) n = [1] := by
      unfold liveM oneT
      simp [livesB, h]
    rw [this]
    simp [h]
  · have : liveM (oneT d true u) n = [] := by
      unfold liveM oneT
      simp [livesB, h]
    rw [this]
    simp [h]
theorem do_forget_kept (T : TrM) (d : List UInt8) (u n : Int) (f : Option FdM) (h : n < u) : sdoM (stB T (snB d u) n f) (fgO 1) = (noM 28, stB T (snB d u) n f) := by
  show (noM (sforgetM (snB d u) 1 n).1, (stB T (snB d u) n f).sn (sforgetM (snB d u) 1 n).2) = _
  have : sforgetM (snB d u) 1 n = (28, snB d u) := by
    show (if boundM (oneT d true u) n = true then ((28 : Int), snB d u) else (0, cutM (snB d u) 0)) = _
    rw [one_bound, if_pos (by simpa using h)]
  rw [this]
  rfl
theorem do_forget_gone (T : TrM) (d : List UInt8) (u n : Int) (f : Option FdM) (h : ¬ n < u) : sdoM (stB T (snB d u) n f) (fgO 1) = (noM 0, stB T (cutM (snB d u) 0) n f) := by
  show (noM (sforgetM (snB d u) 1 n).1, (stB T (snB d u) n f).sn (sforgetM (snB d u) 1 n).2) = _
  have : sforgetM (snB d u) 1 n = (0, cutM (snB d u) 0) := by
    show (if boundM (oneT d true u) n = true then ((28 : Int), snB d u) else (0, cutM (snB d u) 0)) = _
    rw [one_bound, if_neg (by simpa using h)]
  rw [this]
  rfl
theorem do_stat (T : TrM) (d : List UInt8) (u n : Int) (f : Option FdM) : sdoM (stB T (snB d u) n f) (stO 1) = (⟨0, 0, [], [], some (1, ⟨1, 1, u, true, d, []⟩)⟩, stB T (snB d u) n f) := rfl
theorem do_stat_none (T : TrM) (d : List UInt8) (u n : Int) (f : Option FdM) : sdoM (stB T (cutM (snB d u) 0) n f) (stO 1) = (noM 29, stB T (cutM (snB d u) 0) n f) := rfl
theorem do_readall {M : StM} {d : List UInt8} {id : Int} (h : M.fds 0 = some ⟨false, id, d⟩) (hd : d.length ≤ 4096) : sdoM M (rdO 0 4096) = (⟨0, d.length, d, [], none⟩, M) := by
  have := do_read h 0 4096
  rw [List.drop_zero, List.take_of_length_le hd] at this
  exact this
/-- A block that is nobody's. -/
structure Froz (o : Mark) (w : World) (g : Nat) (x : Obj) : Prop where
  own : o g = 0
  low : g < w.heap.size
  at_ : w.heap[g]? = some x
section
variable {W w w' : World} {o o' : Mark} {g i q : Nat} {x : Obj}
theorem Froz.step {I : Nat → Prop} (h : Froz o w g x) (h0 : ¬ I 0) (hs : Step o I w o' w') : Froz o' w' g x :=
  ⟨(hs.old g h.low).trans h.own, Nat.lt_of_lt_of_le h.low hs.keep.size, (hs.block h.low (by rw [h.own]; exact h0)).trans h.at_⟩
theorem Froz.five (h : Froz o w g x) (hi : 0 < i) (hs : Step o (Five i) w o' w') : Froz o' w' g x := h.step (fun e => by have := e.1; omega) hs
theorem Froz.one (h : Froz o w g x) (hq : q ≠ 0) (hs : Step o (fun m => m = q) w o' w') : Froz o' w' g x := h.step (fun e => hq e.symm) hs
theorem Froz.grow (h : Froz o w g x) (hM : Marks W o w) (hb : Below w.heap.size w w') : Froz o w' g x := h.step (I := fun _ => False) (fun e => e) (Step.grow hM hb)
theorem Froz.new (hM : Marks W o w) (x : Obj) : Froz o (w.alloc x) w.heap.size x :=
  ⟨Decidable.byContradiction fun h0 => by have := (hM.new _ h0).2; omega, by simp, (MapKept.heap_alloc w x).1⟩
end
end Go.Proofs.YtpgklnhkfgbpgaaGreatDoor
