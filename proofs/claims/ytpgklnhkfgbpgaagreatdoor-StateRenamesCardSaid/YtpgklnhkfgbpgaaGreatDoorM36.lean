/- package state: what Do does, as plain data. All paths of a node, plainly. All paths, whatever the order of a directory's names. slices.Clone of texts: the new row is one's own. What names of package tree gives: paths, behind what was there. path.Join; what Names of package tree orders by. path.Split. package state: paths: what it gives. -/
import Derived.Test.YtpgklnhkfgbpgaaGreatDoorM33
import Derived.Test.YtpgklnhkfgbpgaaGreatDoorM34
import Derived.Test.YtpgklnhkfgbpgaaGreatDoorM30
import Derived.Test.YtpgklnhkfgbpgaaGreatDoorM35
import Derived.Test.YtpgklnhkfgbpgaaGreatDoorM19
import Derived.Test.YtpgklnhkfgbpgaaGreatDoorM09
import Derived.Test.YtpgklnhkfgbpgaaGreatDoorM11
namespace Go.Proofs.YtpgklnhkfgbpgaaGreatDoor
open Go.ChangeShapes Go.WideShapes Go.ChangeAt Go.RowKit
set_option linter.unusedVariables false
set_option linter.unusedSimpArgs false

/-- The texts that an operation asks by. -/
def opTexts (x : OpM) : List (List UInt8) :=
  if x.kind = 7 ∨ x.kind = 10 then [x.path, x.to_] else
  if x.kind = 1 ∨ x.kind = 2 ∨ x.kind = 3 ∨ x.kind = 8 ∨ x.kind = 9 ∨ x.kind = 11 ∨ x.kind = 12 ∨ x.kind = 13 then [x.path] else []
def splitsM : List (List UInt8) → List (List Nm) × Int
  | [] => ([], 0)
  | a :: r => if (pathSplit a).2 ≠ 0 then ([], (pathSplit a).2) else if (splitsM r).2 ≠ 0 then ([], (splitsM r).2) else ((pathSplit a).1 :: (splitsM r).1, 0)
def pathsO (x : OpM) : List (List Nm) × Int := if 1 ≤ x.kind ∧ x.kind ≤ 17 then splitsM (opTexts x) else ([], 30)
def sforgetM (S : SnM) (id now : Int) : Int × SnM := match S.l.findIdx? (fun x => decide (x.id = id)) with
  | none => (29, S)
  | some k => match S.l[k]? with
    | none => (29, S)
    | some x => if boundM x.t now = true then (28, S) else (0, cutM S k)
def nextM (now tick : Int) : Int := if tick ≤ 1099511627776 then (if now ≤ tick then tick else now) else now
def ofEr (q : Int × StM) : ReM × StM := (noM q.1, q.2)
def StM.tr (M : StM) (T : TrM) : StM := { M with t := T }
def StM.sn (M : StM) (S : SnM) : StM := { M with s := S }
def sdoP (M : StM) (x : OpM) (p q : List Nm) : ReM × StM :=
  if x.kind = 1 then screateM M p else
  if x.kind = 2 then (noM (makeM M.t p 2).1.2, M.tr (makeM M.t p 2).2) else
  if x.kind = 3 then sopenM M p x.snap else
  if x.kind = 4 then (sreadM M x, M) else
  if x.kind = 5 then swriteM M x else
  if x.kind = 6 then ofEr (scloseM M x) else
  if x.kind = 7 then (noM (linkM M.t p q).1, M.tr (linkM M.t p q).2) else
  if x.kind = 8 then ofEr (sunlinkM M p) else
  if x.kind = 9 then (noM (rmdirM M.t p).1, M.tr (rmdirM M.t p).2) else
  if x.kind = 10 then (noM (renameM M.t p q).1, M.tr (renameM M.t p q).2) else
  if x.kind = 11 ∨ x.kind = 12 then (slookM M x p, M) else
  if x.kind = 13 then ofEr (skeepM M p x.til) else
  if x.kind = 14 then (⟨(takeM M.s M.t).1.2, (takeM M.s M.t).1.1, [], [], none⟩, M.sn (takeM M.s M.t).2) else
  if x.kind = 15 then (noM (sforgetM M.s x.snap M.now).1, M.sn (sforgetM M.s x.snap M.now).2) else
  if x.kind = 16 then (noM 0, { M with now := nextM M.now x.til }) else (noM 0, M)
/-- What Do does. -/
def sdoM (M : StM) (x : OpM) : ReM × StM :=
  if (pathsO x).2 ≠ 0 then (noM (pathsO x).2, M) else sdoP M x ((pathsO x).1.getD 0 []) ((pathsO x).1.getD 1 [])
theorem ForgetR.eq {S S' : SnM} {id now er : Int} (h : ForgetR S id now er S') : sforgetM S id now = (er, S') := by
  unfold sforgetM
  rcases h with ⟨rfl, rfl, hno⟩ | ⟨k, x, hx, hid, hno, h⟩
  · have : S'.l.findIdx? (fun x => decide (x.id = id)) = none := by
      rw [List.findIdx?_eq_none_iff]
      intro x hx
      simpa using hno x hx
    rw [this]
  · have : S.l.findIdx? (fun x => decide (x.id = id)) = some k := by
      obtain ⟨hk, e⟩ := List.getElem?_eq_some_iff.1 hx
      rw [List.findIdx?_eq_some_iff_getElem]
      refine ⟨hk, by rw [e]; simpa using hid, fun j hj => ?_⟩
      have hm : S.l[j]'(by omega) ∈ S.l.take k := by
        rw [List.mem_take_iff_getElem]
        exact ⟨j, by omega, rfl⟩
      simpa using hno _ hm
    rw [this]
    dsimp only
    rw [hx]
    dsimp only
    rcases h with ⟨h1, rfl, rfl⟩ | ⟨h1, rfl, rfl⟩
    · rw [if_pos h1]
    · rw [if_neg (by rw [h1]; simp)]

/-- A descriptor that is right. -/
def FdOk (f : FdM) : Prop := 0 ≤ f.id ∧ f.id ≤ 65535 ∧ f.b.length ≤ 4096
structure SnOk (S : SnM) : Prop where
  few : S.l.length ≤ 8
  last : S.last.length ≤ 64
  each : ∀ x ∈ S.l, Okay x.t
structure StOk (c : Int) (M : StM) : Prop where
  t : Okay M.t
  s : SnOk M.s
  next : 0 ≤ M.s.next ∧ M.s.next ≤ c
  now : 0 ≤ M.now ∧ M.now ≤ 1099511627776
  fd : ∀ n f, M.fds n = some f → FdOk f
theorem StOk.mono {c d : Int} {M : StM} (h : StOk c M) (hcd : c ≤ d) : StOk d M := ⟨h.t, h.s, ⟨h.next.1, by have := h.next.2; omega⟩, h.now, h.fd⟩
theorem StOk.new : StOk 1 newSt := ⟨Okay.new, ⟨by decide, by decide, fun x hx => by cases hx⟩, ⟨by decide, by decide⟩, ⟨by decide, by decide⟩, fun n f h => by cases h⟩
theorem StOk.tr {c : Int} {M : StM} (h : StOk c M) {T : TrM} (hT : Okay T) : StOk c (M.tr T) := ⟨hT, h.s, h.next, h.now, h.fd⟩
theorem StOk.put {c : Int} {M : StM} (h : StOk c M) (n : Nat) (f : Option FdM) (hf : ∀ g, f = some g → FdOk g) : StOk c (M.put n f) :=
  ⟨h.t, h.s, h.next, h.now, fun m g hg => by
    have hg : (if m = n then f else M.fds m) = some g := hg
    by_cases hm : m = n
    · rw [if_pos hm] at hg; exact hf g hg
    · rw [if_neg hm] at hg; exact h.fd m g hg⟩
theorem shaM_le (bs : List UInt8) : (shaM bs).length ≤ 64 := by rw [shaM_len]; omega
theorem SnOk.take {S : SnM} (h : SnOk S) {T : TrM} (hT : Okay T) : SnOk (takeM S T).2 := by
  unfold takeM
  by_cases h8 : 8 ≤ S.l.length
  · rw [if_pos h8]; exact h
  · rw [if_neg h8]
    refine ⟨by simp; omega, shaM_le _, fun x hx => ?_⟩
    rcases List.mem_append.1 hx with hx | hx
    · exact h.each x hx
    · rw [List.mem_singleton.1 hx]; exact hT.commitM
theorem takeM_next (S : SnM) (T : TrM) : (takeM S T).2.next = S.next ∨ (takeM S T).2.next = S.next + 1 := by
  unfold takeM
  split
  · exact .inl rfl
  · exact .inr rfl
theorem SnOk.cut {S : SnM} (h : SnOk S) (k : Nat) : SnOk (cutM S k) := by
  refine ⟨?_, h.last, fun x hx => ?_⟩
  · have := h.few
    show (S.l.take k ++ S.l.drop (k + 1)).length ≤ 8
    rw [List.length_append, List.length_take, List.length_drop]; omega
  · rcases List.mem_append.1 (show x ∈ S.l.take k ++ S.l.drop (k + 1) from hx) with hx | hx
    · exact h.each x (List.mem_of_mem_take hx)
    · exact h.each x (List.mem_of_mem_drop hx)
theorem sforget_eq (S : SnM) (id now : Int) : (sforgetM S id now).2 = S ∨ ∃ k, (sforgetM S id now).2 = cutM S k := by
  unfold sforgetM
  split
  · exact .inl rfl
  · split
    · exact .inl rfl
    · split
      · exact .inl rfl
      · exact .inr ⟨_, rfl⟩
theorem SnOk.forget {S : SnM} (h : SnOk S) (id now : Int) : SnOk (sforgetM S id now).2 ∧ (sforgetM S id now).2.next = S.next := by
  rcases sforget_eq S id now with h1 | ⟨k, h1⟩
  · rw [h1]; exact ⟨h, rfl⟩
  · rw [h1]; exact ⟨h.cut k, rfl⟩
theorem nextM_ok {now tick : Int} (h : 0 ≤ now ∧ now ≤ 1099511627776) : 0 ≤ nextM now tick ∧ nextM now tick ≤ 1099511627776 := by
  unfold nextM
  split
  · split
    · omega
    · omega
  · omega
theorem make_small {T : TrM} (hT : OkM T) (ls : List Nm) (kind : Int) : 0 ≤ (makeM T ls kind).1.1 ∧ (makeM T ls kind).1.1 ≤ 65535 := by
  unfold makeM
  split
  · obtain ⟨f, h1, h2, h3, _⟩ := hT.free
    have := hT.len
    dsimp only
    rw [h1]; omega
  · simp
theorem StOk.treeAt {c : Int} {M : StM} (h : StOk c M) {id : Int} {T : TrM} (hT : treeAtM M id = some T) : Okay T := by
  unfold treeAtM at hT
  split at hT
  · cases hT; exact h.t
  · cases hf : findM M.s id with
    | none => rw [hf] at hT; cases hT
    | some y =>
      rw [hf] at hT
      cases hT
      exact h.s.each y (List.mem_of_find?_eq_some hf)
theorem read_le {T : TrM} (hT : OkM T) (id a n : Int) : (readB T id a n).length ≤ 4096 := by
  unfold readB
  split
  · simp
  · rename_i x hx
    split
    · simp
    · have := (hT.each id x hx).size
      unfold partB
      split
      · simp
      · rw [List.length_take, List.length_drop]; omega
theorem StOk.create {c : Int} {M : StM} (h : StOk c M) (ls : List Nm) : StOk c (screateM M ls).2 := by
  unfold screateM
  split
  · exact h
  · split
    · exact h.tr (h.t.makeM ls 1)
    · refine (h.tr (h.t.makeM ls 1)).put _ _ fun g hg => ?_
      cases hg
      have := make_small h.t.1 ls 1
      exact ⟨this.1, this.2, by simp⟩
theorem StOk.open {c : Int} {M : StM} (h : StOk c M) (ls : List Nm) (id : Int) : StOk c (sopenM M ls id).2 := by
  unfold sopenM
  split
  · exact h
  · rename_i T hT
    split
    · exact h
    · unfold openT
      split
      · exact h
      · split
        · exact h
        · split
          · exact h
          · split
            · exact h
            · refine h.put _ _ fun g hg => ?_
              cases hg
              exact ⟨by simp, by simp, read_le (h.treeAt hT).1 _ _ _⟩
theorem StOk.write {c : Int} {M : StM} (h : StOk c M) (x : OpM) : StOk c (swriteM M x).2 := by
  unfold swriteM
  split
  · exact h
  · split
    · exact h
    · exact h.tr (h.t.appendM _ _)
theorem StOk.close {c : Int} {M : StM} (h : StOk c M) (x : OpM) (hx : OpOk x) : StOk c (scloseM M x).2 := by
  unfold scloseM
  split
  · split
    · exact h.tr (h.t.sealM _ _ hx.wt.1)
    · exact (h.tr (h.t.sealM _ _ hx.wt.1)).put _ _ fun g hg => by cases hg
  · split
    · exact h
    · exact h.put _ _ fun g hg => by cases hg
theorem StOk.unlink {c : Int} {M : StM} (h : StOk c M) (ls : List Nm) : StOk c (sunlinkM M ls).2 := by
  unfold sunlinkM
  split
  · exact h
  · split
    · exact h
    · exact h.tr (h.t.unlinkM ls)
theorem StOk.keep {c : Int} {M : StM} (h : StOk c M) (ls : List Nm) (til : Int) (ht : 0 ≤ til) : StOk c (skeepM M ls til).2 := by
  unfold skeepM
  split
  · exact h
  · split
    · exact h
    · exact h.tr (h.t.keepM _ _ ht)
theorem StOk.do_ {c : Int} {M : StM} (h : StOk c M) (x : OpM) (hx : OpOk x) : StOk (c + 1) (sdoM M x).2 := by
  have h' := h.mono (show c ≤ c + 1 by omega)
  unfold sdoM
  by_cases h0 : (pathsO x).2 ≠ 0
  · rw [if_pos h0]; exact h'
  · rw [if_neg h0]
    unfold sdoP
    by_cases h1 : x.kind = 1
    · rw [if_pos h1]; exact h'.create _
    rw [if_neg h1]
    by_cases h2 : x.kind = 2
    · rw [if_pos h2]; exact h'.tr (h.t.makeM _ _)
    rw [if_neg h2]
    by_cases h3 : x.kind = 3
    · rw [if_pos h3]; exact h'.open _ _
    rw [if_neg h3]
    by_cases h4 : x.kind = 4
    · rw [if_pos h4]; exact h'
    rw [if_neg h4]
    by_cases h5 : x.kind = 5
    · rw [if_pos h5]; exact h'.write _
    rw [if_neg h5]
    by_cases h6 : x.kind = 6
    · rw [if_pos h6]; exact h'.close _ hx
    rw [if_neg h6]
    by_cases h7 : x.kind = 7
    · rw [if_pos h7]; exact h'.tr (h.t.linkM _ _)
    rw [if_neg h7]
    by_cases h8 : x.kind = 8
    · rw [if_pos h8]; exact h'.unlink _
    rw [if_neg h8]
    by_cases h9 : x.kind = 9
    · rw [if_pos h9]; exact h'.tr (h.t.rmdirM _)
    rw [if_neg h9]
    by_cases h10 : x.kind = 10
    · rw [if_pos h10]; exact h'.tr (h.t.renameM _ _)
    rw [if_neg h10]
    by_cases h11 : x.kind = 11 ∨ x.kind = 12
    · rw [if_pos h11]; exact h'
    rw [if_neg h11]
    by_cases h13 : x.kind = 13
    · rw [if_pos h13]; exact h'.keep _ _ hx.wt.1
    rw [if_neg h13]
    by_cases h14 : x.kind = 14
    · rw [if_pos h14]
      refine ⟨h.t, h.s.take h.t, ?_, h.now, h.fd⟩
      have := h.next
      rcases takeM_next M.s M.t with e | e
      · show 0 ≤ (takeM M.s M.t).2.next ∧ (takeM M.s M.t).2.next ≤ c + 1
        omega
      · show 0 ≤ (takeM M.s M.t).2.next ∧ (takeM M.s M.t).2.next ≤ c + 1
        omega
    rw [if_neg h14]
    by_cases h15 : x.kind = 15
    · rw [if_pos h15]
      obtain ⟨k1, k2⟩ := h.s.forget x.snap M.now
      refine ⟨h.t, k1, ?_, h.now, h.fd⟩
      have := h'.next
      show 0 ≤ (sforgetM M.s x.snap M.now).2.next ∧ (sforgetM M.s x.snap M.now).2.next ≤ c + 1
      rw [k2]; exact this
    rw [if_neg h15]
    by_cases h16 : x.kind = 16
    · rw [if_pos h16]; exact ⟨h.t, h.s, h'.next, nextM_ok h.now, h.fd⟩
    rw [if_neg h16]
    exact h'
end Go.Proofs.YtpgklnhkfgbpgaaGreatDoor
namespace Go.Proofs.YtpgklnhkfgbpgaaGreatDoor
open Go.ChangeShapes Go.WideShapes Go.ChangeAt Go.RowKit
set_option linter.unusedVariables false
set_option linter.unusedSimpArgs false

end Go.Proofs.YtpgklnhkfgbpgaaGreatDoor
namespace Go.Proofs.YtpgklnhkfgbpgaaGreatDoor
open Go.ChangeShapes Go.WideShapes Go.ChangeAt Go.RowKit
set_option linter.unusedVariables false
set_option linter.unusedSimpArgs false

end Go.Proofs.YtpgklnhkfgbpgaaGreatDoor
namespace Go.Proofs.YtpgklnhkfgbpgaaGreatDoor
open Go.ChangeShapes Go.WideShapes Go.ChangeAt Go.RowKit
set_option linter.unusedVariables false

end Go.Proofs.YtpgklnhkfgbpgaaGreatDoor
namespace Go.Proofs.YtpgklnhkfgbpgaaGreatDoor
open Go.ChangeShapes Go.WideShapes Go.ChangeAt Go.RowKit
set_option linter.unusedVariables false
set_option linter.unusedSimpArgs false

/-- A path as a value. -/
def PathV (S : Nat → Prop) (w : World) (u : Value) (q : List Nm) : Prop := ∃ a c, u = .slice a q.length c ∧ q.length ≤ c ∧ StrsAt S w a q.length (q.map strOf)
def PathVs (S : Nat → Prop) (w : World) (vals : List Value) (l : List (List Nm)) : Prop := vals.length = l.length ∧ ∀ (i : Nat) (q : List Nm), l[i]? = some q → ∃ u, vals[i]? = some u ∧ PathV S w u q
theorem PathV.move {S S' : Nat → Prop} {w w' : World} {u : Value} {q : List Nm} (h : PathV S w u q) (hs : w.heap.size ≤ w'.heap.size) (hk : ∀ b, S b → b < w.heap.size → S' b ∧ w'.heap[b]? = w.heap[b]?) : PathV S' w' u q := by
  obtain ⟨a, c, h1, h2, h3⟩ := h
  exact ⟨a, c, h1, h2, h3.row.move hs hk, h3.short⟩
theorem PathVs.move {S S' : Nat → Prop} {w w' : World} {vals : List Value} {l : List (List Nm)} (h : PathVs S w vals l) (hs : w.heap.size ≤ w'.heap.size) (hk : ∀ b, S b → b < w.heap.size → S' b ∧ w'.heap[b]? = w.heap[b]?) : PathVs S' w' vals l :=
  ⟨h.1, fun i q hq => by
    obtain ⟨u, h1, h2⟩ := h.2 i q hq
    exact ⟨u, h1, h2.move hs hk⟩⟩
theorem PathVs.append {S : Nat → Prop} {w : World} {v1 v2 : List Value} {l1 l2 : List (List Nm)} (h : PathVs S w v1 l1) (k : PathVs S w v2 l2) : PathVs S w (v1 ++ v2) (l1 ++ l2) := by
  refine ⟨by rw [List.length_append, List.length_append, h.1, k.1], fun i q hq => ?_⟩
  by_cases hi : i < l1.length
  · rw [List.getElem?_append_left hi] at hq
    rw [List.getElem?_append_left (by rw [h.1]; exact hi)]
    exact h.2 i q hq
  · rw [List.getElem?_append_right (by omega)] at hq
    rw [List.getElem?_append_right (by rw [h.1]; omega), h.1]
    exact k.2 _ q hq
/-- out, and these in some order behind it. -/
def NamesRel (B : Nat) (w : World) (v : Value) (m : Nat) (xs : List Value) (L : List (List Nm)) (v' : Value) (w' : World) : Prop :=
  ∃ vals l, l.Perm L ∧ w'.ownsRow B 28 1 v' (m + l.length) (xs ++ vals) ∧ PathVs (fun b => w.heap.size ≤ b ∧ b < w'.heap.size ∧ v'.ownBlock ≠ some b) w' vals l ∧ Keeps (fun b => v.ownBlock = some b) w w' ∧ ∀ b, v'.ownBlock = some b → v.ownBlock = some b ∨ w.heap.size ≤ b
theorem NamesRel.refl {B : Nat} {w : World} {v : Value} {m : Nat} {xs : List Value} (h : w.ownsRow B 28 1 v m xs) : NamesRel B w v m xs [] v w :=
  ⟨[], [], List.Perm.refl _, by simpa using h, ⟨rfl, fun i q hq => by simp at hq⟩, Keeps.refl _ _, fun b hb => .inl hb⟩
/-- One behind another. -/
theorem NamesRel.trans {B : Nat} {w w1 w2 : World} {v v1 v2 : Value} {m : Nat} {xs : List Value} {L1 L2 : List (List Nm)} (h : NamesRel B w v m xs L1 v1 w1) (k : ∀ m1 xs1, w1.ownsRow B 28 1 v1 m1 xs1 → NamesRel B w1 v1 m1 xs1 L2 v2 w2) : NamesRel B w v m xs (L1 ++ L2) v2 w2 := by
  obtain ⟨vals, l, hp, ho, hv, hK, hb⟩ := h
  obtain ⟨vals2, l2, hp2, ho2, hv2, hK2, hb2⟩ := k _ _ ho
  have hs1 := hK.size
  have hs2 := hK2.size
  refine ⟨vals ++ vals2, l ++ l2, hp.append hp2, by rw [List.length_append, ← Nat.add_assoc, ← List.append_assoc]; exact ho2, ?_, hK.trans hK2 fun x hx hx1 => ?_, fun b hb' => ?_⟩
  · refine (hv.move (by omega) fun b hS hbw => ⟨⟨hS.1, by omega, fun he => ?_⟩, hK2.block b hbw fun he => hS.2.2 he⟩).append (hv2.move (Nat.le_refl _) fun b hS hbw => ⟨⟨by omega, hS.2.1, hS.2.2⟩, rfl⟩)
    rcases hb2 b he with h1 | h1
    · exact hS.2.2 h1
    · omega
  · rcases hb x hx1 with h1 | h1
    · exact h1
    · omega
  · rcases hb2 b hb' with h1 | h1
    · exact hb b h1
    · exact .inr (by omega)
end Go.Proofs.YtpgklnhkfgbpgaaGreatDoor
namespace Go.Proofs.YtpgklnhkfgbpgaaGreatDoor
open Go.ChangeShapes Go.WideShapes Go.ChangeAt Go.RowKit
set_option linter.unusedVariables false
set_option linter.unusedSimpArgs false

def bmk (l : List UInt8) : ByteArray := ⟨l.toArray⟩
theorem bmk_size (l : List UInt8) : (bmk l).size = l.length := by simp [bmk, ByteArray.size]
/-- A path that is small. -/
def Small (q : List Nm) : Prop := q.length ≤ 64 ∧ ∀ n ∈ q, n.length ≤ 16
end Go.Proofs.YtpgklnhkfgbpgaaGreatDoor
namespace Go.Proofs.YtpgklnhkfgbpgaaGreatDoor
open Go.ChangeShapes Go.WideShapes Go.ChangeAt Go.RowKit
set_option linter.unusedVariables false

theorem bls_len (ss : List ByteArray) : (bls ss).length = ss.length := by simp [bls]


theorem strs_new {w : World} {e : TypeId} {ss : List ByteArray} {n : Nat} (hn : ss.length = n) (hm : n ≤ maxLen) (hs : ∀ s ∈ ss, s.size ≤ maxLen) : StrsAt (Fresh w.heap.size) (w.alloc (.cells (ss.map Value.string).toArray e)) (some ⟨w.heap.size, 0, none⟩) n ss := by
  refine ⟨⟨by simpa using hn, hm, fun _ => ⟨w.heap.size, 0, rfl, Nat.le_refl _, by simp, fun i hi => ?_⟩⟩, hs⟩
  have hh : (w.alloc (.cells (ss.map Value.string).toArray e)).heap[w.heap.size]? = some (.cells (ss.map Value.string).toArray e) := (MapKept.heap_alloc w _).1
  simp only [World.cell?, hh, Nat.zero_add]
  simp
theorem bls_any (ss : List ByteArray) : ss.any badS = (bls ss).any (fun x => !goodL x) := by
  unfold bls; rw [List.any_map]; rfl
theorem fine_bls (ss : List ByteArray) : fineE ss = fineL (bls ss) := by
  unfold fineE fineL; rw [bls_any, bls_len]


def RetSplit (w : World) (l : List UInt8) (e : Ending) (w' : World) : Prop :=
  ∃ a len cap ss, e = .returned (.tuple #[.slice a len cap, .int .i64 (pathSplit l).2]) ∧ len ≤ cap ∧ bls ss = (pathSplit l).1 ∧ StrsAt (Fresh w.heap.size) w' a len ss ∧ Below w.heap.size w w'

theorem split_any (s : ByteArray) (w : World) (hs : s.size < 4294967281) (m : Int) (hm : w.cell? ⟨0, 0, none⟩ = some (.int .i64 m)) :
    Calls Tryz.prog 79 #[.string s] w (RetSplit w s.data.toList) := by
  obtain ⟨l, hl⟩ : ∃ l, s.data.toList = l := ⟨_, rfl⟩
  rw [hl]
  have hsl : s.size = l.length := by rw [← hl]; simp
  have HC := Tryz.strings_CutPrefix s ⟨#[47]⟩
  rw [hl] at HC
  have ways : (Lib.hasPrefix l [47] = false ∧ pathSplit l = ([], 12)) ∨ (l = [47] ∧ pathSplit l = ([], 0)) ∨ (∃ r, r ≠ [] ∧ l = 47 :: r ∧ pathSplit l = if fineL (splitL r) = 0 then (splitL r, 0) else ([], fineL (splitL r))) := by
    cases l with
    | nil => exact Or.inl ⟨rfl, rfl⟩
    | cons c r =>
      by_cases h : c = 47
      · subst h
        by_cases hr : r = []
        · subst hr; exact Or.inr (Or.inl ⟨rfl, rfl⟩)
        · exact Or.inr (Or.inr ⟨r, hr, rfl, by simp [pathSplit, hr]⟩)
      · refine Or.inl ⟨?_, by simp [pathSplit, h]⟩
        simp [Lib.hasPrefix, List.isPrefixOf]
        exact fun e => h e.symm
  clear hl
  rcases ways with ⟨h1, h2⟩ | ⟨h1, h2⟩ | ⟨r, h1, h2, h3⟩
  · have HP := Lib.hid h2
    rw [h1] at HC
    clear h1 h2 hsl
    go_enter Tryz.func79, Tryz.ntmps79
    go_wp2_with fail
    refine (HC _).mono ?_
    rintro e w1 ⟨rfl, rfl⟩
    clear HC
    go_wp2_with fail
    go_ret2
    exact ⟨none, 0, 0, [], by rw [HP.out]; rfl, by simp, by rw [HP.out]; rfl, ⟨RowAt.nil _ _ _, by simp⟩, Below.refl _ _⟩
  · have HP := Lib.hid h2
    subst h1
    clear h2 hsl
    rw [show Lib.trimPrefix [47] [47] = [] from rfl, show Lib.hasPrefix [47] [47] = true from rfl] at HC
    go_enter Tryz.func79, Tryz.ntmps79
    go_wp2_with fail
    refine (HC _).mono ?_
    rintro e w1 ⟨rfl, rfl⟩
    clear HC
    go_wp2_with fail
    go_ret2
    exact ⟨none, 0, 0, [], by rw [HP.out]; rfl, by simp, by rw [HP.out]; rfl, ⟨RowAt.nil _ _ _, by simp⟩, Below.refl _ _⟩
  · subst h2
    have HP := Lib.hid h3
    clear h3
    have e1 : Lib.trimPrefix (47 :: r) [47] = r := by simp [Lib.trimPrefix, Lib.hasPrefix, List.isPrefixOf]
    have e2 : Lib.hasPrefix (47 :: r) [47] = true := by simp [Lib.hasPrefix, List.isPrefixOf]
    rw [show (⟨#[47]⟩ : ByteArray).data.toList = [47] from rfl, e1, e2] at HC
    clear e1 e2
    obtain ⟨t, ht⟩ : ∃ t, t = bmk r := ⟨_, rfl⟩
    have ht' : (⟨r.toArray⟩ : ByteArray) = t := ht.symm
    rw [ht'] at HC
    have htl : t.data.toList = r := by rw [ht]; rfl
    have hts : t.size = r.length := by rw [ht, bmk_size]
    have hte := ByteArray.toList_eq t
    rw [htl] at hte
    have ht1 : ¬ t.toList = [] := by rw [hte]; exact h1
    have ht2 : t.toList.isEmpty = false := by rw [hte]; simpa using h1
    have hsz : t.size < 4294967281 := by rw [hts]; simp at hsl; omega
    clear ht ht' hte
    obtain ⟨hB, hcn⟩ := splitB_ours t
    rw [htl] at hB hcn
    have hlen : (Lib.splitB ⟨#[47]⟩ 0 (Lib.countB t ⟨#[47]⟩) t).length = Lib.countB t ⟨#[47]⟩ + 1 := by
      have := congrArg List.length hB
      rw [List.length_map, splitL_length] at this
      omega
    have hcl : Lib.countB t ⟨#[47]⟩ + 1 ≤ r.length + 1 := by rw [hcn]; have := List.count_le_length (a := (47 : UInt8)) (l := r); omega
    have hshort : ∀ x ∈ Lib.splitB ⟨#[47]⟩ 0 (Lib.countB t ⟨#[47]⟩) t, x.size ≤ maxLen := by
      intro x hx
      have h5 : x.data.toList ∈ splitL r := by rw [← hB]; exact List.mem_map.2 ⟨x, hx, rfl⟩
      have := splitL_le r _ h5
      have h6 : x.data.toList.length = x.size := by simp
      unfold maxLen
      omega
    obtain ⟨ss, hss⟩ : ∃ ss, ss = Lib.splitB ⟨#[47]⟩ 0 (Lib.countB t ⟨#[47]⟩) t := ⟨_, rfl⟩
    have HS := Tryz.strings_Split t ⟨#[47]⟩ m w hsz hm (by decide)
    obtain ⟨n, hn⟩ : ∃ n, n = Lib.countB t ⟨#[47]⟩ + 1 := ⟨_, rfl⟩
    rw [← hss, ← hn] at HS
    rw [← hss] at hB hlen hshort
    rw [← hn] at hlen hcl
    have hnm : n ≤ maxLen := by unfold maxLen; omega
    have HSt := strs_new (w := w) (e := 9) hlen hnm hshort
    have HF := fine_any (S := Fresh w.heap.size) (some ⟨w.heap.size, 0, none⟩) n n ss _ HSt
    rw [fine_bls, show bls ss = splitL r from hB] at HF
    have HB := Lib.hid hB
    clear hB hlen hshort hss hn hcn hcl hnm htl hts hsl
    cases hf : (fineL (splitL r) != 0)
    · have hf0 : fineL (splitL r) = 0 := by simpa using hf
      have HF0 := Lib.hid hf0
      clear hf0
      go_enter Tryz.func79, Tryz.ntmps79
      go_wp2_with fail
      refine (HC _).mono ?_
      rintro e w1 ⟨rfl, rfl⟩
      clear HC
      go_wp2_with fail
      refine HS.mono ?_
      rintro e w1 ⟨rfl, rfl⟩
      go_wp2_with fail
      refine HF.mono ?_
      rintro e w1 ⟨rfl, hb⟩
      go_wp2_with fail
      go_ret2
      refine ⟨_, n, n, ss, by rw [HP.out, if_pos HF0.out]; rfl, Nat.le_refl _, by rw [HP.out, if_pos HF0.out]; exact HB.out, HSt.below hb (by simp), ((Below.refl _ _).alloc (Nat.le_refl _) _).trans (hb.mono (by simp))⟩
    · have hf0 : fineL (splitL r) ≠ 0 := by simpa using hf
      have HF0 := Lib.hid hf0
      clear hf0
      go_enter Tryz.func79, Tryz.ntmps79
      go_wp2_with fail
      refine (HC _).mono ?_
      rintro e w1 ⟨rfl, rfl⟩
      clear HC
      go_wp2_with fail
      refine HS.mono ?_
      rintro e w1 ⟨rfl, rfl⟩
      go_wp2_with fail
      refine HF.mono ?_
      rintro e w1 ⟨rfl, hb⟩
      go_wp2_with fail
      go_ret2
      refine ⟨none, 0, 0, [], by rw [HP.out, if_neg HF0.out]; rfl, by simp, by rw [HP.out, if_neg HF0.out]; rfl, ⟨RowAt.nil _ _ _, by simp⟩, ((Below.refl _ _).alloc (Nat.le_refl _) _).trans (hb.mono (by simp))⟩
end Go.Proofs.YtpgklnhkfgbpgaaGreatDoor
namespace Go.Proofs.YtpgklnhkfgbpgaaGreatDoor
open Go.ChangeShapes Go.WideShapes Go.ChangeAt Go.RowKit
set_option linter.unusedVariables false
set_option linter.unusedSimpArgs false

theorem splitsM_ok : ∀ (ts : List (List UInt8)), (∀ t ∈ ts, (pathSplit t).2 = 0) → splitsM ts = (ts.map fun t => (pathSplit t).1, 0)
  | [], _ => rfl
  | t :: r, h => by
    have h1 := h t (by simp)
    have h2 := splitsM_ok r fun x hx => h x (by simp [hx])
    unfold splitsM
    rw [if_neg (by rw [h1]; simp), h2, if_neg (by simp)]
    rfl
theorem splitsM_bad : ∀ (ts : List (List UInt8)) (k : Nat) (t : List UInt8), ts[k]? = some t → (∀ x ∈ ts.take k, (pathSplit x).2 = 0) → (pathSplit t).2 ≠ 0 → splitsM ts = ([], (pathSplit t).2)
  | [], k, t, h, _, _ => by simp at h
  | a :: r, 0, t, h, _, h2 => by
    have h : a = t := by simpa using h
    subst h
    unfold splitsM
    rw [if_pos h2]
  | a :: r, k + 1, t, h, h1, h2 => by
    have h3 := splitsM_bad r k t (by simpa using h) (fun x hx => h1 x (by rw [List.take_succ_cons]; simp [hx])) h2
    unfold splitsM
    rw [if_neg (by rw [h1 a (by rw [List.take_succ_cons]; simp)]; simp), h3, if_pos h2]
theorem bls_eta (ss : List ByteArray) : (bls ss).map strOf = ss := by
  unfold bls
  rw [List.map_map]
  have : (strOf ∘ fun s : ByteArray => s.data.toList) = id := by
    funext s
    show strOf s.data.toList = s
    cases s; rfl
  rw [this, List.map_id]
def PathsRet (w : World) (ps : List (List Nm) × Int) (e : Ending) (w' : World) : Prop :=
  ∃ a n c vs, e = .returned (.tuple #[.slice a n c, .int .i64 ps.2]) ∧ n = ps.1.length ∧ n ≤ c ∧ RowAt (fun b => w.heap.size ≤ b ∧ b < w'.heap.size) w' a n vs ∧ PathVs (fun b => w.heap.size ≤ b ∧ b < w'.heap.size) w' vs ps.1 ∧ Below w.heap.size w w'
/-- What stands behind so many rounds. -/
def PathsLoop (w : World) (ts : List (List UInt8)) (k : Nat) (v : Value) (wr : World) : Prop :=
  ∃ vals, wr.ownsRow w.heap.size 28 1 v k vals ∧ PathVs (fun b => w.heap.size ≤ b ∧ b < wr.heap.size ∧ v.ownBlock ≠ some b) wr vals ((ts.take k).map fun t => (pathSplit t).1) ∧ Below w.heap.size w wr ∧ ∀ t ∈ ts.take k, (pathSplit t).2 = 0
theorem PathsLoop.start {w wr : World} (ts : List (List UInt8)) (hb : Below w.heap.size w wr) : PathsLoop w ts 0 (.slice none 0 0) wr :=
  ⟨[], ⟨rfl, .inl ⟨rfl, rfl⟩⟩, ⟨rfl, fun i q hq => by simp at hq⟩, hb, fun t ht => by simp at ht⟩
theorem PathsLoop.one {w : World} {ts : List (List UInt8)} {k : Nat} {v : Value} {wr : World} (h : PathsLoop w ts k v wr) : ∃ a c vals, v = .slice a k c ∧ k ≤ c ∧ wr.ownsRow w.heap.size 28 1 v k vals := by
  obtain ⟨vals, h1, h2⟩ := h
  obtain ⟨a, c, h3, h4⟩ := own_form h1
  exact ⟨a, c, vals, h3, h4, h1⟩
theorem PathsLoop.next {w w2 w3 w4 : World} {ts : List (List UInt8)} {k : Nat} {v v' : Value} {wr : World} {t : List UInt8} {a : Option Addr} {len cap : Nat} {ss : List ByteArray} {vals : List Value}
    (h1 : wr.ownsRow w.heap.size 28 1 v k vals) (h2 : PathVs (fun b => w.heap.size ≤ b ∧ b < wr.heap.size ∧ v.ownBlock ≠ some b) wr vals ((ts.take k).map fun t => (pathSplit t).1)) (h3 : Below w.heap.size w wr) (h4 : ∀ t ∈ ts.take k, (pathSplit t).2 = 0)
    (ht : ts[k]? = some t) (h0 : (pathSplit t).2 = 0) (hlc : len ≤ cap) (hbs : bls ss = (pathSplit t).1) (hS : StrsAt (Fresh wr.heap.size) w2 a len ss) (hb2 : Below wr.heap.size wr w2) (hb3 : Below w2.heap.size w2 w3)
    (hown : w4.ownsRow w.heap.size 28 1 v' (k + 1) (vals ++ [.slice a len cap])) (hg : w3.grownBy w4 v.ownBlock) (hob : v'.ownBlock = v.ownBlock ∨ v'.ownBlock = some w3.heap.size) : PathsLoop w ts (k + 1) v' w4 := by
  have hs2 := hb2.size
  have hs3 := hb3.size
  have hs1 := h3.size
  have hs4 := hg.size
  have hvo : ∀ b, v.ownBlock = some b → b < wr.heap.size := own_lt h1
  have hne : ∀ b, b < w3.heap.size → v.ownBlock ≠ some b → v'.ownBlock ≠ some b := fun b hb hn => by
    rcases hob with e | e
    · rw [e]; exact hn
    · rw [e]; simp; omega
  refine ⟨_, hown, ?_, (h3.trans ((hb2.trans (hb3.mono hs2)).mono hs1)).grown hg (by omega) (own_block_ge h1), fun x hx => ?_⟩
  · have e : (ts.take (k + 1)).map (fun t => (pathSplit t).1) = (ts.take k).map (fun t => (pathSplit t).1) ++ [(pathSplit t).1] := by
      obtain ⟨hk, e⟩ := List.getElem?_eq_some_iff.1 ht
      rw [List.take_succ_eq_append_getElem hk, List.map_append, e]; rfl
    rw [e]
    refine PathVs.append (h2.move (by omega) fun b hb hbw => ⟨⟨hb.1, by omega, hne b (by omega) hb.2.2⟩, ?_⟩) ⟨rfl, fun i q hq => ?_⟩
    · exact ((hg.block b (by omega) (fun e => hb.2.2 e.symm)).trans (hb3.block b (by omega))).trans (hb2.block b hbw)
    · rcases i with _ | i
      · have hq : (pathSplit t).1 = q := by simpa using hq
        subst hq
        refine ⟨_, rfl, ?_⟩
        have hl := hS.length
        have hss : ss = ((pathSplit t).1).map strOf := by rw [← hbs, bls_eta]
        have hll : len = (pathSplit t).1.length := by rw [← hl, hss, List.length_map]
        subst hll
        rw [hss] at hS
        refine ⟨a, cap, rfl, hlc, hS.row.move (by omega) fun b hb hbw => ?_, hS.short⟩
        have hb : wr.heap.size ≤ b := hb
        have hvn : v.ownBlock ≠ some b := fun e => by have := hvo b e; omega
        exact ⟨⟨by omega, by omega, hne b (by omega) hvn⟩, (hg.block b (by omega) (fun e => hvn e.symm)).trans (hb3.block b hbw)⟩
      · simp at hq
  · obtain ⟨hk, e⟩ := List.getElem?_eq_some_iff.1 ht
    rw [List.take_succ_eq_append_getElem hk, e] at hx
    rcases List.mem_append.1 hx with hx | hx
    · exact h4 x hx
    · rw [List.mem_singleton.1 hx]; exact h0
theorem PathsLoop.done {w : World} {ts : List (List UInt8)} {v : Value} {wr : World} (h : PathsLoop w ts ts.length v wr) : PathsRet w (splitsM ts) (.returned (.tuple #[v, .int .i64 0])) wr := by
  obtain ⟨vals, h1, h2, h3, h4⟩ := h
  rw [List.take_of_length_le (Nat.le_refl _)] at h2 h4
  rw [splitsM_ok ts h4]
  obtain ⟨a, c, rfl, hc⟩ := own_form h1
  exact ⟨a, ts.length, c, vals, rfl, by simp, hc, (RowAt.of_own h1).2, h2.move (Nat.le_refl _) fun b hb _ => ⟨⟨hb.1, hb.2.1⟩, rfl⟩, h3⟩
theorem PathsRet.up {w w1 wr : World} {ps : List (List Nm) × Int} {e : Ending} (h : PathsRet w1 ps e wr) (hb : Below w.heap.size w w1) : PathsRet w ps e wr := by
  obtain ⟨a, n, c, vs, h1, h2, h3, h4, h5, h6⟩ := h
  have := hb.size
  exact ⟨a, n, c, vs, h1, h2, h3, h4.mono fun b hb' => ⟨by omega, hb'.2⟩, h5.move (Nat.le_refl _) fun b hb' _ => ⟨⟨by omega, hb'.2⟩, rfl⟩, hb.trans (h6.mono hb.size)⟩
theorem info_strs : (Tryz.prog.info? 28).map (fun i => (i.zero, i.size, i.bytes)) = some (some (.slice none 0 0), 1, 24) := by kernel_rfl
end Go.Proofs.YtpgklnhkfgbpgaaGreatDoor
