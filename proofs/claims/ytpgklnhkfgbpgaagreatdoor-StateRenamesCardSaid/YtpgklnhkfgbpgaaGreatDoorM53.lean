/- StateRenames: the states, plainly. A drawn region: an operation taken, in one line. -/
import Derived.Test.YtpgklnhkfgbpgaaGreatDoorM50
import Derived.Test.YtpgklnhkfgbpgaaGreatDoorM49
import Derived.Test.YtpgklnhkfgbpgaaGreatDoorM26
namespace Go.Proofs.YtpgklnhkfgbpgaaGreatDoor
open Go.ChangeShapes Go.WideShapes Go.ChangeAt Go.RowKit
set_option linter.unusedVariables false
set_option linter.unusedSimpArgs false

def rnRoot (l : List (Nm × Int)) : Int × ItM := (0, ⟨2, 1, 0, true, [], l⟩)
def rnDir (l : List (Nm × Int)) : Int × ItM := (1, ⟨2, 1, 0, true, [], l⟩)
def rnFile (k : Int) (d : List UInt8) (c : Bool) (u : Int) : Int × ItM := (k, ⟨1, 1, u, c, d, []⟩)
def rn1 : TrM := [rnRoot [([100], 1)], rnDir []]
def rn2 (d : List UInt8) (c : Bool) (u : Int) : TrM := [rnRoot [([100], 1)], rnDir [([97], 2)], rnFile 2 d c u]
def rn5 (d : List UInt8) (u : Int) (c : Bool) : TrM := [rnRoot [([98], 3), ([100], 1)], rnDir [([97], 2)], rnFile 2 d true u, rnFile 3 [] c 0]
def rn6 (d : List UInt8) (u : Int) : TrM := [rnRoot [([98], 3), ([101], 1)], rnDir [([97], 2)], rnFile 2 d true u, rnFile 3 [] true 0]
def rn7 (d : List UInt8) (u : Int) : TrM := [rnRoot [([98], 3), ([101], 1), ([122], 2)], rnDir [], rnFile 2 d true u, rnFile 3 [] true 0]
def rn8 (d : List UInt8) (u : Int) : TrM := [rnRoot [([98], 3), ([122], 2)], rnFile 2 d true u, rnFile 3 [] true 0]
def pO (kind : Int) (p q : List UInt8) : OpM := ⟨kind, p, q, 0, 0, 0, 0, 0, []⟩
theorem pO_ok (kind : Int) (p q : List UInt8) (hk : 0 ≤ kind ∧ kind ≤ 1000) (hp : p.length ≤ 1000) (hq : q.length ≤ 1000) : OpOk (pO kind p q) := by unfold pO; exact opOk_small hk (by simp) (by simp) (by simp) (by simp) (by simp) hp hq (by simp)
def stR (T : TrM) (f : Option FdM) : StM := stB T newSn 0 f
theorem rn_mkdir : sdoM newSt (pO 2 [47, 100] []) = (noM 0, stR rn1 none) := by
  have h : sdoM newSt (pO 2 [47, 100] []) = (noM 0, newSt.tr rn1) := by kernel_rfl
  rw [h]
  unfold stR stB StM.tr newSt
  rw [fd1_none]
theorem rn_free (T : TrM) : freeI (stR T none) = 0 := by
  have e : stR T none = ⟨T, newSn, 0, fun _ => none⟩ := by unfold stR stB; rw [fd1_none]
  rw [e]
  rfl
theorem rn_create (T T' : TrM) (p : List UInt8) (ls : List Nm) (k : Int) (hp : pathsO (pO 1 p []) = ([ls], 0)) (hm : makeM T ls 1 = ((k, 0), T')) : sdoM (stR T none) (pO 1 p []) = (⟨0, 0, [], [], none⟩, stR T' (some ⟨true, k, []⟩)) := by
  unfold sdoM
  rw [hp, if_neg (by simp)]
  show screateM (stR T none) ls = _
  unfold screateM
  rw [rn_free, if_neg (by omega)]
  have hm' : makeM (stR T none).t ls 1 = ((k, 0), T') := hm
  rw [hm']
  dsimp only
  rw [if_neg (by simp), show (0 : Int).toNat = 0 from rfl]
  show ((⟨0, 0, [], [], none⟩ : ReM), StM.put { (stR T none) with t := T' } 0 (some ⟨true, k, []⟩)) = _
  rw [put_fd1 _ none _ rfl]
  rfl
theorem rn_write (T T' : TrM) (k : Int) (d : List UInt8) (h : d.length ≤ 600) (ha : appendM T k d = (0, T')) : sdoM (stR T (some ⟨true, k, []⟩)) (wrO d) = (⟨0, d.length, [], [], none⟩, stR T' (some ⟨true, k, []⟩)) := by
  show swriteM (stR T (some ⟨true, k, []⟩)) (wrO d) = _
  have hg : getFd (stR T (some ⟨true, k, []⟩)) 0 true = some ⟨true, k, []⟩ := rfl
  unfold swriteM wrO
  dsimp only
  rw [hg]
  dsimp only
  rw [if_neg (by omega)]
  have ha' : appendM (stR T (some ⟨true, k, []⟩)).t k d = (0, T') := ha
  rw [ha']
  rfl
theorem rn_close (T T' : TrM) (k u : Int) (hs : sealM T k u = (0, T')) : sdoM (stR T (some ⟨true, k, []⟩)) (clO u) = (noM 0, stR T' none) := by
  show ofEr (scloseM (stR T (some ⟨true, k, []⟩)) (clO u)) = _
  have hg : getFd (stR T (some ⟨true, k, []⟩)) 0 true = some ⟨true, k, []⟩ := rfl
  unfold scloseM clO
  dsimp only
  rw [hg]
  dsimp only
  have hs' : sealM (stR T (some ⟨true, k, []⟩)).t k u = (0, T') := hs
  rw [hs']
  show ofEr (0, StM.put { (stR T (some ⟨true, k, []⟩)) with t := T' } 0 none) = _
  rw [put_fd1 _ (some ⟨true, k, []⟩) none rfl]
  rfl
theorem rn_c2 : sdoM (stR rn1 none) (pO 1 [47, 100, 47, 97] []) = (⟨0, 0, [], [], none⟩, stR (rn2 [] false 0) (some ⟨true, 2, []⟩)) := rn_create rn1 (rn2 [] false 0) _ [[100], [97]] 2 (by kernel_rfl) (by kernel_rfl)
theorem rn_w3 (d : List UInt8) (h : d.length ≤ 600) : sdoM (stR (rn2 [] false 0) (some ⟨true, 2, []⟩)) (wrO d) = (⟨0, d.length, [], [], none⟩, stR (rn2 d false 0) (some ⟨true, 2, []⟩)) := by
  refine rn_write _ _ 2 d h ?_
  have e : appendE (rn2 [] false 0) 2 d = 0 := by
    show (if 4096 < ([] : List UInt8).length + d.length then (15 : Int) else 0) = 0
    rw [if_neg (by simp; omega)]
  unfold appendM
  rw [e, if_pos rfl]
  rfl
theorem rn_s4 (d : List UInt8) (u : Int) (h : u ≤ 1099511627776) : sdoM (stR (rn2 d false 0) (some ⟨true, 2, []⟩)) (clO u) = (noM 0, stR (rn2 d true u) none) := by
  refine rn_close _ _ 2 u ?_
  have e : sealE (rn2 d false 0) 2 u = 0 := by
    show (if 1099511627776 < u then (1 : Int) else 0) = 0
    rw [if_neg (by omega)]
  unfold sealM
  rw [e, if_pos rfl]
  rfl
theorem rn_c5 (d : List UInt8) (u : Int) : sdoM (stR (rn2 d true u) none) (pO 1 [47, 98] []) = (⟨0, 0, [], [], none⟩, stR (rn5 d u false) (some ⟨true, 3, []⟩)) := rn_create _ _ _ [[98]] 3 (by kernel_rfl) (by kernel_rfl)
theorem rn_s6 (d : List UInt8) (u : Int) : sdoM (stR (rn5 d u false) (some ⟨true, 3, []⟩)) (clO 0) = (noM 0, stR (rn5 d u true) none) := rn_close _ _ 3 0 (by kernel_rfl)
def rnNode (d : List UInt8) (u : Int) : ReM := ⟨0, 0, [], [], some (2, ⟨1, 1, u, true, d, []⟩)⟩
theorem rn_stat (d : List UInt8) (u : Int) : sdoM (stR (rn5 d u true) none) (pO 12 [47, 100, 47, 97] []) = (rnNode d u, stR (rn5 d u true) none) := by kernel_rfl
theorem rn_ren1 (d : List UInt8) (u : Int) : sdoM (stR (rn5 d u true) none) (pO 10 [47, 98] [47, 100, 47, 97]) = (noM 21, stR (rn5 d u true) none) := by kernel_rfl
theorem rn_rmd1 (d : List UInt8) (u : Int) : sdoM (stR (rn5 d u true) none) (pO 9 [47, 100] []) = (noM 24, stR (rn5 d u true) none) := by kernel_rfl
theorem rn_cre1 (d : List UInt8) (u : Int) : sdoM (stR (rn5 d u true) none) (pO 1 [47, 100, 47, 97] []) = (noM 21, stR (rn5 d u true) none) := by
  have hp : pathsO (pO 1 [47, 100, 47, 97] []) = ([[[100], [97]]], 0) := by kernel_rfl
  unfold sdoM
  rw [hp, if_neg (by simp)]
  show screateM (stR (rn5 d u true) none) [[100], [97]] = _
  unfold screateM
  rw [rn_free, if_neg (by omega)]
  have hm : makeM (stR (rn5 d u true) none).t [[100], [97]] 1 = ((0, 21), rn5 d u true) := by kernel_rfl
  rw [hm]
  rfl
theorem rn_ren2 (d : List UInt8) (u : Int) : sdoM (stR (rn5 d u true) none) (pO 10 [47, 100] [47, 101]) = (noM 0, stR (rn6 d u) none) := by kernel_rfl
theorem rn_ren3 (d : List UInt8) (u : Int) : sdoM (stR (rn6 d u) none) (pO 10 [47, 101, 47, 97] [47, 122]) = (noM 0, stR (rn7 d u) none) := by kernel_rfl
theorem rn_stat2 (d : List UInt8) (u : Int) : sdoM (stR (rn7 d u) none) (pO 12 [47, 100, 47, 97] []) = (noM 20, stR (rn7 d u) none) := by kernel_rfl
theorem rn_open (d : List UInt8) (u : Int) : sdoM (stR (rn7 d u) none) (pO 3 [47, 122] []) = (⟨0, 0, [], [], none⟩, stR (rn7 d u) (some ⟨false, 0, d⟩)) := by
  have hp : pathsO (pO 3 [47, 122] []) = ([[[122]]], 0) := by kernel_rfl
  unfold sdoM
  rw [hp, if_neg (by simp)]
  show sopenM (stR (rn7 d u) none) [[122]] 0 = _
  have hr : readB (rn7 d u) 2 0 d.length = d := by
    show partB d 0 d.length = d
    unfold partB
    rw [if_neg (by omega)]
    simp
  have hl : lookE (rn7 d u) [[122]] = (2, 0) := by kernel_rfl
  have ha : aget (2 : Int) (rn7 d u) = some ⟨1, 1, u, true, d, []⟩ := by kernel_rfl
  show (if freeI (stR (rn7 d u) none) < 0 then (noM 25, stR (rn7 d u) none) else openT (stR (rn7 d u) none) (rn7 d u) [[122]]) = _
  rw [rn_free, if_neg (by omega)]
  unfold openT
  rw [hl]
  dsimp only
  rw [if_neg (by simp), ha]
  dsimp only
  rw [if_neg (by simp), if_neg (by simp), rn_free, hr, show (0 : Int).toNat = 0 from rfl, put_fd1 _ none _ rfl]
  rfl
theorem rn_stat3 (d : List UInt8) (u : Int) : sdoM (stR (rn7 d u) (some ⟨false, 0, d⟩)) (pO 12 [47, 122] []) = (rnNode d u, stR (rn7 d u) (some ⟨false, 0, d⟩)) := by kernel_rfl
theorem rn_unl (d : List UInt8) (u : Int) (h : 0 < u) : sdoM (stR (rn7 d u) (some ⟨false, 0, d⟩)) (pO 8 [47, 122] []) = (noM 28, stR (rn7 d u) (some ⟨false, 0, d⟩)) := by
  have hp : pathsO (pO 8 [47, 122] []) = ([[[122]]], 0) := by kernel_rfl
  unfold sdoM
  rw [hp, if_neg (by simp)]
  show ofEr (sunlinkM (stR (rn7 d u) (some ⟨false, 0, d⟩)) [[122]]) = _
  have hn : nodeAtX (stR (rn7 d u) (some ⟨false, 0, d⟩)).t [[122]] = ⟨2, 1, 1, d.length, u, true, 0⟩ := by kernel_rfl
  have hr : removeOf 1 1 u true 0 = 28 := by simp [removeOf, kindOf, h]
  unfold sunlinkM
  rw [hn]
  dsimp only
  rw [show (stR (rn7 d u) (some ⟨false, 0, d⟩)).now = 0 from rfl, hr]
  rfl
theorem rn_rmd2 (d : List UInt8) (u : Int) : sdoM (stR (rn7 d u) (some ⟨false, 0, d⟩)) (pO 9 [47, 101] []) = (noM 0, stR (rn8 d u) (some ⟨false, 0, d⟩)) := by kernel_rfl
end Go.Proofs.YtpgklnhkfgbpgaaGreatDoor
namespace Go.Proofs.YtpgklnhkfgbpgaaGreatDoor
open Go
set_option linter.unusedVariables false
theorem tkH {P : Program} {ops : Array Oper} {Q : Exit → Act → World → Prop} {md : Region.Mode} {S : World → Prop} (i : Nat) {oi : Oper} {v : Value} {fuel : Nat} {listed : Array Bool} {a : Act} {w : World}
    (hi : ops[i]? = some oi := by simp only [List.getElem?_toArray, List.getElem?_cons_succ, List.getElem?_cons_zero]; rfl)
    (hs : Region.noSelect ops = true := by kernel_rfl) (hf : Region.free md ops listed i = true := by kernel_rfl) (hr : (Region.ready md ops listed).contains i = true := by kernel_rfl)
    (hQ : ∀ c a w, Q (.panic c) (a.put oi.dst v) w → Q (.panic c) a w := by exact fun _ _ _ h => h)
    (hw : Region.wanted oi (yielded ops a.tmps) = true := by rfl)
    (hy : ∀ w, S w → (execOp a.eval oi).run P w = .ok (.value v) w := by intro w hSw; (try dsimp only at hSw); go_simp; (try with_reducible rfl))
    (hS : S w) (h : wpAnyH P md ops Q S fuel (listed.setIfInBounds i true) (a.put oi.dst v) w) : wpAnyH P md ops Q S (fuel + 1) listed a w :=
  wpAnyH_take hi hs hf hr hQ (Or.inl ⟨hw, hy⟩) hS h
end Go.Proofs.YtpgklnhkfgbpgaaGreatDoor
