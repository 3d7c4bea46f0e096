/- package state: what is closed and not due stays, plainly. package state: Tree (a frozen copy). What is said of names of package tree, plainly: pieces for its walk. A call never takes back what was drawn: shown for each step of the machine. -/
import Derived.Test.YtpgklnhkfgbpgaaGreatDoorM37
import Derived.Test.YtpgklnhkfgbpgaaGreatDoorM44
import Derived.Test.YtpgklnhkfgbpgaaGreatDoorM30
import Derived.Test.YtpgklnhkfgbpgaaGreatDoorM34
import Derived.Test.YtpgklnhkfgbpgaaGreatDoorM15
import Derived.Test.YtpgklnhkfgbpgaaGreatDoorM01
import Derived.Calls
namespace Go.Proofs.YtpgklnhkfgbpgaaGreatDoor
open Go.ChangeShapes Go.WideShapes Go.ChangeAt Go.RowKit
set_option linter.unusedVariables false
set_option linter.unusedSimpArgs false

/-- A file x that is y now: closed, kept no less long, the same bytes. -/
def SameF (x y : ItM) : Prop := y.kind = 1 ∧ y.closed = true ∧ x.til ≤ y.til ∧ y.b = x.b
/-- Closed files that are not due at n stay. -/
def KpT (n : Int) (T T' : TrM) : Prop := ∀ id x, aget id T = some x → x.kind = 1 → x.closed = true → n < x.til → ∃ y, aget id T' = some y ∧ SameF x y
theorem KpT.refl (n : Int) (T : TrM) : KpT n T T := fun id x h h1 h2 h3 => ⟨x, h, h1, h2, Int.le_refl _, rfl⟩
theorem KpT.trans {n : Int} {T T' T'' : TrM} (h : KpT n T T') (h' : KpT n T' T'') : KpT n T T'' := fun id x h0 h1 h2 h3 => by
  obtain ⟨y, e, g1, g2, g3, g4⟩ := h id x h0 h1 h2 h3
  obtain ⟨z, e', k1, k2, k3, k4⟩ := h' id y e g1 g2 (by omega)
  exact ⟨z, e', k1, k2, by omega, k4.trans g4⟩
/-- The one that is turned. -/
theorem KpT.mod {n : Int} {T : TrM} (k : Int) (f : ItM → ItM) (hf : ∀ x, aget k T = some x → x.kind = 1 → x.closed = true → n < x.til → SameF x (f x)) : KpT n T (amod k f T) := fun id x h h1 h2 h3 => by
  by_cases hk : id = k
  · subst hk
    exact ⟨f x, by rw [aget_amod, if_pos rfl, h]; rfl, hf x h h1 h2 h3⟩
  · exact ⟨x, by rw [aget_amod, if_neg hk, h], h1, h2, Int.le_refl _, rfl⟩
theorem KpT.names {n : Int} {T : TrM} (k : Int) (g : ItM → List (Nm × Int)) : KpT n T (amod k (fun x => { x with names := g x }) T) := KpT.mod k _ fun x _ h1 h2 h3 => ⟨h1, h2, Int.le_refl _, rfl⟩
theorem KpT.set {n : Int} {T : TrM} (d : Int) (nm : Nm) (id : Int) : KpT n T (setName T d nm id) := KpT.names d _
theorem KpT.cut {n : Int} {T : TrM} (d : Int) (nm : Nm) : KpT n T (cutName T d nm) := KpT.names d _
theorem KpT.del {n : Int} {T : TrM} (k : Int) (hk : ∀ x, aget k T = some x → ¬ (x.kind = 1 ∧ x.closed = true ∧ n < x.til)) : KpT n T (adel k T) := fun id x h h1 h2 h3 => by
  by_cases hi : id = k
  · subst hi; exact absurd ⟨h1, h2, h3⟩ (hk x h)
  · exact ⟨x, by rw [aget_adel, if_neg hi, h], h1, h2, Int.le_refl _, rfl⟩
theorem KpT.settle {n : Int} {T : TrM} (k : Int) (hk : ∀ x, aget k T = some x → x.links = 0 → x.closed = true → ¬ (x.kind = 1 ∧ n < x.til)) : KpT n T (settleM T k) := by
  unfold settleM
  split
  · exact KpT.refl _ _
  · rename_i x hx
    split
    · rename_i h
      refine KpT.del k fun y hy hh => ?_
      rw [hx] at hy
      cases hy
      exact hk x hx h.1 h.2 ⟨hh.1, hh.2.2⟩
    · exact KpT.refl _ _
theorem KpT.make {n : Int} {T : TrM} (hT : OkM T) (p : List Nm) (kind : Int) : KpT n T (makeM T p kind).2 := by
  unfold makeM
  split
  · obtain ⟨f, e1, e2, -, e4, -⟩ := hT.free
    unfold makeOk
    rw [e1]
    refine KpT.trans (T' := aput ilt (f : Int) (freshM kind) T) (fun id x h h1 h2 h3 => ?_) (KpT.set _ _ _)
    refine ⟨x, ?_, h1, h2, Int.le_refl _, rfl⟩
    rw [aget_aput, if_neg (fun e => by rw [e, e4] at h; cases h), h]
  · exact KpT.refl _ _
theorem KpT.append {n : Int} {T : TrM} (id : Int) (b : List UInt8) : KpT n T (appendM T id b).2 := by
  unfold appendM
  dsimp only
  split
  · rename_i h
    refine KpT.mod id _ fun x hx h1 h2 h3 => ?_
    exfalso
    unfold appendE at h
    rw [hx] at h
    dsimp only at h
    rw [if_neg (by omega), if_pos h2] at h
    cases h
  · exact KpT.refl _ _
theorem KpT.seal_ {n : Int} {T : TrM} (id til : Int) : KpT n T (sealM T id til).2 := by
  unfold sealM
  dsimp only
  split
  · rename_i h
    have hno : ∀ x, aget id T = some x → x.kind = 1 → x.closed = true → False := fun x hx h1 h2 => by
      unfold sealE at h
      rw [hx] at h
      dsimp only at h
      rw [if_neg (by omega), if_pos h2] at h
      cases h
    intro i x hx h1 h2 h3
    have hi : i ≠ id := fun e => by subst e; exact hno x hx h1 h2
    refine ⟨x, ?_, h1, h2, Int.le_refl _, rfl⟩
    unfold settleM
    have hm : aget i (amod id (fun x => { x with closed := true, til := til }) T) = some x := by rw [aget_amod, if_neg hi, hx]
    split
    · exact hm
    · split
      · rw [aget_adel, if_neg hi]; exact hm
      · exact hm
  · exact KpT.refl _ _
theorem KpT.link {n : Int} {T : TrM} (p q : List Nm) : KpT n T (linkM T p q).2 := by
  unfold linkM
  dsimp only
  split
  · unfold linkOk
    exact (KpT.set _ _ _).trans (KpT.mod _ _ fun x _ h1 h2 h3 => ⟨h1, h2, Int.le_refl _, rfl⟩)
  · exact KpT.refl _ _
theorem KpT.rename_ {n : Int} {T : TrM} (p q : List Nm) : KpT n T (renameM T p q).2 := by
  unfold renameM
  dsimp only
  split
  · unfold renameOk
    exact (KpT.cut _ _).trans (KpT.set _ _ _)
  · exact KpT.refl _ _
theorem KpT.rmdir_ {n : Int} {T : TrM} (p : List Nm) : KpT n T (rmdirM T p).2 := by
  unfold rmdirM
  dsimp only
  split
  · rename_i h
    have hk : kindM T (lookM T 0 p).1 = 2 := by
      unfold rmdirE at h
      by_cases h1 : (lookE T p).2 ≠ 0
      · rw [if_pos h1] at h; exact absurd h h1
      · rw [if_neg h1] at h
        by_cases h2 : kindM T (lookM T 0 p).1 ≠ 2
        · rw [if_pos h2] at h; cases h
        · omega
    unfold rmdirOk
    refine (KpT.cut (placeM T p).1 (placeM T p).2.1).trans (KpT.del _ fun x hx hh => ?_)
    obtain ⟨y, hy, hy2⟩ := kindM_some hk
    unfold cutName at hx
    rw [aget_amod] at hx
    rw [hy] at hx
    split at hx
    · cases hx
      have := hh.1
      dsimp only at this
      omega
    · cases hx
      have := hh.1
      omega
  · exact KpT.refl _ _
theorem KpT.keep_ {n : Int} {T : TrM} (id til : Int) : KpT n T (keepM T id til).2 := by
  unfold keepM
  dsimp only
  split
  · rename_i h
    refine KpT.mod id _ fun x hx h1 h2 h3 => ⟨h1, h2, ?_, rfl⟩
    unfold keepE at h
    rw [hx] at h
    dsimp only at h
    rw [if_neg (by omega), if_neg (by rw [h2]; simp)] at h
    dsimp only
    by_cases h4 : til < x.til
    · rw [if_pos h4] at h; cases h
    · omega
  · exact KpT.refl _ _
theorem KpT.unlink_ {n : Int} {T : TrM} (ls : List Nm) (h1 : (nodeAtX T ls).er = 0) (h2 : removeOf (nodeAtX T ls).k (nodeAtX T ls).l (nodeAtX T ls).u (nodeAtX T ls).c n = 0) : KpT n T (unlinkM T ls).2 := by
  unfold unlinkM
  dsimp only
  split
  · rename_i h
    have he : (lookE T ls).2 = 0 := Decidable.byContradiction fun h0 => by
      unfold nodeAtX at h1
      rw [if_pos h0] at h1
      exact h0 h1
    have hl : lookE T ls = lookM T 0 ls := by
      unfold lookE at he ⊢
      by_cases hf : fineL ls ≠ 0
      · rw [if_pos hf] at he; exact absurd he hf
      · rw [if_neg hf]
    unfold unlinkOk
    generalize hid : (lookM T 0 ls).1 = id
    have hX : ∀ x, aget id T = some x → x.kind = 1 → x.closed = true → n < x.til → 1 < x.links := fun x hx k1 k2 k3 => by
      unfold nodeAtX at h2
      rw [if_neg (by omega), hl, hid, hx] at h2
      dsimp only at h2
      unfold removeOf at h2
      by_cases h5 : x.kind = 1 ∧ x.closed = true ∧ x.links ≤ 1 ∧ n < x.til
      · rw [if_pos h5] at h2; cases h2
      · exact Decidable.byContradiction fun h6 => h5 ⟨k1, k2, by omega, k3⟩
    have hc : KpT n T (cutName T (placeM T ls).1 (placeM T ls).2.1) := KpT.cut _ _
    have hcl : ∀ y, aget id (cutName T (placeM T ls).1 (placeM T ls).2.1) = some y → ∃ x, aget id T = some x ∧ y.kind = x.kind ∧ y.closed = x.closed ∧ y.til = x.til ∧ y.links = x.links := fun y hy => by
      unfold cutName at hy
      rw [aget_amod] at hy
      split at hy
      · cases hg : aget id T with
        | none => rw [hg] at hy; cases hy
        | some x => rw [hg] at hy; cases hy; exact ⟨x, rfl, rfl, rfl, rfl, rfl⟩
      · exact ⟨y, hy, rfl, rfl, rfl, rfl⟩
    refine (hc.trans (KpT.mod id (fun x => { x with links := x.links - 1 }) fun x _ h1 h2 h3 => ⟨h1, h2, Int.le_refl _, rfl⟩)).trans (KpT.settle id fun x hx h0 h3 h4 => ?_)
    rw [aget_amod, if_pos rfl] at hx
    cases hg : aget id (cutName T (placeM T ls).1 (placeM T ls).2.1) with
    | none => rw [hg] at hx; cases hx
    | some y =>
      rw [hg] at hx
      cases hx
      obtain ⟨x, hx, e1, e2, e3, e4⟩ := hcl y hg
      dsimp only at h0 h3 h4
      have := hX x hx (by omega) (by rw [← e2]; exact h3) (by omega)
      omega
  · exact KpT.refl _ _
theorem sdo_kp {c : Int} {M : StM} (h : StOk c M) (x : OpM) : KpT M.now M.t (sdoM M x).2.t := by
  have hc := sdo_chg M x
  have hT := h.t.1
  generalize (sdoM M x).2 = M' at hc ⊢
  cases hc with
  | same => exact KpT.refl _ _
  | make ls kind => exact KpT.make hT _ _
  | create ls h1 h2 => exact KpT.make hT _ _
  | opens T ls y h1 h2 h3 h4 h5 h6 => exact KpT.refl _ _
  | write f h1 => exact KpT.append _ _
  | closes f h1 h2 h3 => exact KpT.seal_ _ _
  | shut f h1 h2 => exact KpT.refl _ _
  | link p q => exact KpT.link _ _
  | unlink ls h1 h2 => exact KpT.unlink_ ls h1 h2
  | rmdir ls => exact KpT.rmdir_ _
  | rename p q => exact KpT.rename_ _ _
  | keep ls h1 => exact KpT.keep_ _ _
  | take => exact KpT.refl _ _
  | forget => exact KpT.refl _ _
  | tick h1 => exact KpT.refl _ _
end Go.Proofs.YtpgklnhkfgbpgaaGreatDoor
namespace Go.Proofs.YtpgklnhkfgbpgaaGreatDoor
open Go.ChangeShapes Go.WideShapes Go.ChangeAt Go.RowKit
set_option linter.unusedVariables false
set_option linter.unusedSimpArgs false

section
variable {W w : World} {o : Mark} {i j k p : Nat} {M : StM}
theorem stree_any (hS : StateO o i j k w p M) (hM : Marks W o w) (hok : OkM M.t) : Calls Tryz.prog 24 #[ptr p] w fun e w' => ∃ q, e = .returned (ptr q) ∧ TreeO o 0 w' q M.t ∧ Below w.heap.size w w' := by
  obtain ⟨t, s, v, h1, h2, h3, h4⟩ := hS.at_
  obtain ⟨z0, z1, z2, z3, z4⟩ := st_cells h1
  have HC := Lib.hid (om_copy0 h3 hM hok)
  clear hS hM hok h1 h2 h3 h4 z1 z2 z3 z4
  go_enter Tryz.func24, Tryz.ntmps24
  go_wp2_with fail
  (with_reducible refine HC.out.mono ?_)
  rintro e w1 ⟨q, rfl, hT, hb⟩
  have HT := Lib.hid hT
  have HB := Lib.hid hb
  clear hT hb
  go_wp2_with fail
  go_ret
  exact ⟨q, rfl, HT.out, HB.out⟩
end
end Go.Proofs.YtpgklnhkfgbpgaaGreatDoor
namespace Go.Proofs.YtpgklnhkfgbpgaaGreatDoor
open Go.ChangeShapes Go.WideShapes Go.ChangeAt Go.RowKit
set_option linter.unusedVariables false
set_option linter.unusedSimpArgs false

/-- A row of one's own is a path. -/
theorem PathV.of_own {w : World} {base : Nat} {v : Value} {n : Nat} {q : List Nm} (h : w.ownsRow base 9 1 v n ((q.map strOf).map .string)) (hs : ∀ k ∈ q, k.length ≤ maxLen) : PathV (fun b => base ≤ b ∧ b < w.heap.size) w v q := by
  obtain ⟨a, c, rfl, hc⟩ := own_form h
  obtain ⟨_, hr⟩ := RowAt.of_own h
  have hn : q.length = n := by simpa using hr.length
  subst hn
  refine ⟨a, c, rfl, hc, hr, fun s hs' => ?_⟩
  obtain ⟨k, hk, rfl⟩ := List.mem_map.1 hs'
  rw [strOf_size]
  exact hs k hk
theorem PathV.weak {S S' : Nat → Prop} {w : World} {u : Value} {q : List Nm} (h : PathV S w u q) (hS : ∀ b, b < w.heap.size → S b → S' b) : PathV S' w u q :=
  h.move (Nat.le_refl _) fun b hb hbw => ⟨hS b hbw hb, rfl⟩
/-- One path more. -/
theorem NamesRel.push {B : Nat} {w w1 w2 : World} {v v' cv : Value} {m : Nat} {xs : List Value} {q : List Nm} {o : Obj} (hv : w.ownsRow B 28 1 v m xs) (hB1 : Below w.heap.size w w1) (hc : w1.ownsRow w.heap.size 9 1 cv q.length ((q.map strOf).map .string)) (hq : ∀ k ∈ q, k.length ≤ maxLen)
    (hown : w2.ownsRow B 28 1 v' (m + 1) (xs ++ [cv])) (hg : (w1.alloc o).grownBy w2 v.ownBlock) (hat : v'.ownBlock = v.ownBlock ∨ v'.ownBlock = some (w1.alloc o).heap.size) : NamesRel B w v m xs [q] v' w2 := by
  have hs1 := hB1.size
  have hs2 := hg.size
  have hsa : (w1.alloc o).heap.size = w1.heap.size + 1 := by simp
  have hvb : ∀ b, v'.ownBlock = some b → v.ownBlock = some b ∨ w1.heap.size < b := fun b hb => by
    rcases hat with h | h
    · exact .inl (h ▸ hb)
    · rw [h] at hb
      cases hb
      exact .inr (by omega)
  have hP := PathV.of_own hc hq
  have hold : ∀ b, b < w1.heap.size → v.ownBlock ≠ some b → w2.heap[b]? = w1.heap[b]? := fun b hb hne => (hg.block b (by omega) (fun e => hne e.symm)).trans ((MapKept.heap_alloc w1 o).2 b hb)
  refine ⟨[cv], [q], List.Perm.refl _, hown, ⟨rfl, fun i p hp => ?_⟩, ?_, fun b hb => ?_⟩
  · match i, hp with
    | 0, hp =>
      obtain rfl : q = p := by simpa using hp
      refine ⟨cv, rfl, hP.move (by omega) fun b hb hbw => ⟨⟨hb.1, by omega, fun he => ?_⟩, hold b hbw fun he => ?_⟩⟩
      · rcases hvb b he with h1 | h1
        · have := own_lt hv b h1
          omega
        · omega
      · have := own_lt hv b he
        omega
  · exact ⟨hg.os.trans hB1.os, hg.tape.trans hB1.tape, hg.output.trans hB1.output, by omega, fun b hb hn => (hold b (by omega) hn).trans (hB1.block b hb)⟩
  · rcases hvb b hb with h1 | h1
    · exact .inl h1
    · exact .inr (by omega)
/-- What is in out by now, and one may go on from it. -/
theorem NamesRel.own {B : Nat} {w w1 : World} {v v1 : Value} {m : Nat} {xs : List Value} {L1 : List (List Nm)} (h : NamesRel B w v m xs L1 v1 w1) :
    ∃ m1 xs1, m1 = m + L1.length ∧ w1.ownsRow B 28 1 v1 m1 xs1 ∧ ∀ L2 v2 w2, NamesRel B w1 v1 m1 xs1 L2 v2 w2 → NamesRel B w v m xs (L1 ++ L2) v2 w2 := by
  obtain ⟨vals, l, hp, ho, hv, hK, hb⟩ := h
  refine ⟨m + l.length, xs ++ vals, by rw [hp.length_eq], ho, fun L2 v2 w2 k => ?_⟩
  obtain ⟨vals2, l2, hp2, ho2, hv2, hK2, hb2⟩ := k
  have hs1 := hK.size
  have hs2 := hK2.size
  refine ⟨vals ++ vals2, l ++ l2, hp.append hp2, by rw [List.length_append, ← Nat.add_assoc, ← List.append_assoc]; exact ho2, ?_, hK.trans hK2 fun x hx hx1 => ?_, fun b hb' => ?_⟩
  · refine (hv.move (by omega) fun b hS hbw => ⟨⟨hS.1, by omega, fun he => ?_⟩, hK2.block b hbw fun he => hS.2.2 he⟩).append (hv2.move (Nat.le_refl _) fun b hS hbw => ⟨⟨by omega, hS.2.1, hS.2.2⟩, rfl⟩)
    rcases hb2 b he with h1 | h1
    · exact hS.2.2 h1
    · omega
  · rcases hb x hx1 with h1 | h1
    · exact h1
    · omega
  · rcases hb2 b hb' with h1 | h1
    · exact hb b h1
    · exact .inr (by omega)
/-- Behind it only new memory was written. -/
theorem NamesRel.below {B : Nat} {w w1 w2 : World} {v v1 : Value} {m : Nat} {xs : List Value} {L : List (List Nm)} (h : NamesRel B w v m xs L v1 w1) (hb : Below w1.heap.size w1 w2) : NamesRel B w v m xs L v1 w2 := by
  obtain ⟨vals, l, hp, ho, hv, hK, hbl⟩ := h
  have hs := hb.size
  exact ⟨vals, l, hp, own_keep ho fun b _ hbw => hb.block b hbw, hv.move hs fun b hS hbw => ⟨⟨hS.1, by omega, hS.2.2⟩, hb.block b hbw⟩, hK.trans (Keeps.below hb) (fun x hx hx' => by have := hK.size; omega), hbl⟩
theorem NamesRel.keeps {B : Nat} {w w1 : World} {v v1 : Value} {m : Nat} {xs : List Value} {L : List (List Nm)} (h : NamesRel B w v m xs L v1 w1) : Keeps (fun b => v.ownBlock = some b) w w1 := by
  obtain ⟨_, _, _, _, _, hK, _⟩ := h
  exact hK
theorem NamesRel.new {B : Nat} {w w1 : World} {v v1 : Value} {m : Nat} {xs : List Value} {L : List (List Nm)} (h : NamesRel B w v m xs L v1 w1) : ∀ b, v1.ownBlock = some b → v.ownBlock = some b ∨ w.heap.size ≤ b := by
  obtain ⟨_, _, _, _, _, _, hb⟩ := h
  exact hb
/-- A path that is none of out's own. -/
theorem NamesRel.path {B : Nat} {w w1 : World} {v v1 u : Value} {m : Nat} {xs : List Value} {L : List (List Nm)} {q : List Nm} (h : NamesRel B w v m xs L v1 w1) (hp : PathV (fun b => v.ownBlock ≠ some b) w u q) : PathV (fun b => b < w.heap.size ∧ v1.ownBlock ≠ some b) w1 u q :=
  hp.move h.keeps.size fun b hb hbw => ⟨⟨hbw, fun he => by
    rcases h.new b he with h1 | h1
    · exact hb h1
    · omega⟩, h.keeps.block b hbw hb⟩
theorem PathV.off {S : Nat → Prop} {w : World} {u : Value} {q : List Nm} {r : Nat} (h : PathV S w u q) (hr : ∀ i, w.cell? ⟨r, i, none⟩ = none) : PathV (fun b => S b ∧ b ≠ r) w u q := by
  obtain ⟨a, c, h1, h2, h3⟩ := h
  refine ⟨a, c, h1, h2, ⟨h3.row.length, h3.row.small, fun h0 => ?_⟩, h3.short⟩
  obtain ⟨b, off, e, hS, hb, hc⟩ := h3.row.at_ h0
  refine ⟨b, off, e, ⟨hS, fun he => ?_⟩, hb, hc⟩
  have hl := h3.row.length
  have h4 := hc 0 h0
  rw [he, hr, List.getElem?_eq_getElem (by omega)] at h4
  cases h4
theorem PathVs.off {S : Nat → Prop} {w : World} {vals : List Value} {l : List (List Nm)} {r : Nat} (h : PathVs S w vals l) (hr : ∀ i, w.cell? ⟨r, i, none⟩ = none) : PathVs (fun b => S b ∧ b ≠ r) w vals l :=
  ⟨h.1, fun i q hq => by
    obtain ⟨u, h1, h2⟩ := h.2 i q hq
    exact ⟨u, h1, h2.off hr⟩⟩
/-- An iterator moves on. -/
theorem NamesRel.iter {B : Nat} {w w1 w2 : World} {v v1 : Value} {m : Nat} {xs : List Value} {L : List (List Nm)} {r : Nat} (h : NamesRel B w v m xs L v1 w1) (hK : Keeps (fun b => b = r) w1 w2) (hr : ∀ i, w1.cell? ⟨r, i, none⟩ = none) (hwr : w.heap.size ≤ r) (hne : v1.ownBlock ≠ some r) : NamesRel B w v m xs L v1 w2 := by
  obtain ⟨vals, l, hp, ho, hv, hK1, hbl⟩ := h
  have hs := hK.size
  refine ⟨vals, l, hp, own_keep ho fun b hb hbw => hK.block b hbw fun he => hne (he ▸ hb), ((hv.off hr).move hs fun b hS hbw => ⟨⟨hS.1.1, by omega, hS.1.2.2⟩, hK.block b hbw hS.2⟩), hK1.trans hK (fun x hx hx' => by omega), hbl⟩
theorem RangeAt.nocell {w : World} {b r cnt : Nat} {l : List (Nm × Value)} {left : Nm → Bool} (h : RangeAt strK w b r l left cnt) : ∀ i, w.cell? ⟨r, i, none⟩ = none := by
  obtain ⟨L, ⟨es, clock, since, seen, c0, hb, hF, hs, hD, hr, rest⟩, hL⟩ := h
  intro i
  simp only [World.cell?, hr]
theorem NamesRel.tree {g : Nat → Own} {D : Nat → Prop} {p mb : Nat} {ib nb : Int → Nat} {T : TrM} {B : Nat} {w w1 : World} {v v1 : Value} {m : Nat} {xs : List Value} {L : List (List Nm)} (h : NamesRel B w v m xs L v1 w1) (hv : w.ownsRow B 28 1 v m xs) (hT : TreeAt g D w p mb ib nb T) (hB : ∀ b, g b ≠ .none ∨ D b → b < B) : TreeAt g D w1 p mb ib nb T :=
  hT.keeps h.keeps fun b hb he => by have := own_block_ge hv b he; have := hB b hb; omega
theorem done_len {α : Type} (f : Nm × Int → List α) (left : Nm → Bool) : ∀ l : List (Nm × Int), ((doneN left l).flatMap f).length ≤ (l.flatMap f).length
  | [] => by simp [doneN]
  | y :: r => by
    have ih := done_len f left r
    unfold doneN at ih ⊢
    rw [List.filter_cons]
    split
    · simp only [List.flatMap_cons, List.length_append]; omega
    · simp only [List.flatMap_cons, List.length_append]; omega
end Go.Proofs.YtpgklnhkfgbpgaaGreatDoor
namespace Go.Proofs.YtpgklnhkfgbpgaaGreatDoor
open Go
set_option linter.unusedVariables false
set_option linter.unusedSimpArgs false

theorem ask_drawn {α : Type} : ∀ (a : Ask α) (w : World), w.drawn ≤ (w.ask a).2.drawn
  | .done a, w => Nat.le_refl _
  | .ask what range k, w => by
    unfold World.ask
    simp only
    split
    · exact ask_drawn _ w
    · exact Nat.le_trans (Nat.le_succ _) (ask_drawn (k _) { w with drawn := w.drawn + 1 })
theorem sys_drawn (w : World) (c : Sys) : w.drawn ≤ (w.sys c).2.drawn := by
  unfold World.sys
  have h := ask_drawn (Kernel.perform c w.os) w
  split
  · exact Nat.le_refl _
  · rename_i e
    rw [e] at h
    exact h
theorem viewStore_drawn {p : Program} {w w' : World} {at_ : Addr} {u : TypeId} {k : Addr} {v : Value} {atomic : Bool} {l : List Addr} (h : World.viewStore p w at_ u k v atomic = .ok (w', l)) : w'.drawn = w.drawn := by
  unfold World.viewStore at h
  simp only [bind, Except.bind, pure, Except.pure] at h
  repeat' (split at h)
  all_goals (first | (cases h; done) | (cases h; rfl))
theorem farStore_drawn {p : Program} {w w' : World} {a : Addr} {v : Value} {atomic : Bool} {l : List Addr} (h : w.farStore p a v atomic = .ok (w', l)) : w'.drawn = w.drawn := by
  unfold World.farStore at h
  split at h
  · split at h
    · rename_i e
      cases h
      exact viewStore_drawn e
    · cases h
  · cases h
def resW {α : Type} : Result α → World | .ok _ w => w | .halt _ w => w
theorem freeze_drawn (w : World) (a : Addr) (n : Nat) : (w.freeze a n).drawn = w.drawn := by
  unfold World.freeze
  split <;> rfl
theorem runT_drawn {α : Type} (p : Program) : ∀ (s : Sem α) (w : World) (es : Array Event), w.drawn ≤ (resW (s.runT p w es).1).drawn := by
  intro s
  induction s with
  | pure a => intro w es; exact Nat.le_refl _
  | load m a k ih =>
    intro w es
    unfold Sem.runT
    split
    · exact ih _ _ _
    · split
      · exact ih _ _ _
      · exact Nat.le_refl _
  | store m a v k ih =>
    intro w es
    cases v <;> unfold Sem.runT <;> first
      | exact Nat.le_refl _
      | (split
         · split
           · exact Nat.le_refl _
           · exact ih (w.setCell a _) _
         · split
           · rename_i e
             rw [← farStore_drawn e]
             exact ih _ _
           · exact Nat.le_refl _)
  | new o k ih => intro w es; exact ih _ { w with heap := w.heap.push o } es
  | shape r k ih => intro w es; exact ih _ w es
  | freeze a n k ih =>
    intro w es
    have := ih (w.freeze a n) es
    rw [freeze_drawn] at this
    exact this
  | frozen a k ih => intro w es; exact ih _ w es
  | getObj r k ih =>
    intro w es
    unfold Sem.runT
    split
    · exact Nat.le_refl _
    · exact ih _ _ _
    · exact Nat.le_refl _
  | setObj r o k ih =>
    intro w es
    unfold Sem.runT
    split
    · exact Nat.le_refl _
    · exact ih { w with heap := w.heap.setIfInBounds r o } _
    · exact Nat.le_refl _
  | choose q k ih =>
    intro w es
    unfold Sem.runT
    split
    · exact ih _ _ _
    · exact Nat.le_trans (Nat.le_succ _) (ih _ { w with drawn := w.drawn + 1 } es)
  | sys c k ih =>
    intro w es
    exact Nat.le_trans (sys_drawn w c) (ih _ (w.sys c).2 _)
  | program k ih => intro w es; exact ih _ w es
  | mark m k ih => intro w es; exact ih w _
  | halt h => intro w es; exact Nat.le_refl _
theorem run_drawn {α : Type} (p : Program) : ∀ (s : Sem α) (w : World), w.drawn ≤ (resW (s.run p w)).drawn := by
  intro s
  induction s with
  | pure a => intro w; exact Nat.le_refl _
  | load m a k ih =>
    intro w
    unfold Sem.run
    split
    · exact ih _ _
    · split
      · exact ih _ _
      · exact Nat.le_refl _
  | store m a v k ih =>
    intro w
    cases v <;> unfold Sem.run <;> first
      | exact Nat.le_refl _
      | (split
         · split
           · exact Nat.le_refl _
           · exact ih (w.setCell a _)
         · split
           · rename_i e
             rw [← farStore_drawn e]
             exact ih _
           · exact Nat.le_refl _)
  | new o k ih => intro w; exact ih _ { w with heap := w.heap.push o }
  | shape r k ih => intro w; exact ih _ w
  | freeze a n k ih =>
    intro w
    have := ih (w.freeze a n)
    rw [freeze_drawn] at this
    exact this
  | frozen a k ih => intro w; exact ih _ w
  | getObj r k ih =>
    intro w
    unfold Sem.run
    split
    · exact Nat.le_refl _
    · exact ih _ _
    · exact Nat.le_refl _
  | setObj r o k ih =>
    intro w
    unfold Sem.run
    split
    · exact Nat.le_refl _
    · exact ih { w with heap := w.heap.setIfInBounds r o }
    · exact Nat.le_refl _
  | choose q k ih =>
    intro w
    unfold Sem.run
    split
    · exact ih _ _
    · exact Nat.le_trans (Nat.le_succ _) (ih _ { w with drawn := w.drawn + 1 })
  | sys c k ih =>
    intro w
    exact Nat.le_trans (sys_drawn w c) (ih _ (w.sys c).2)
  | program k ih => intro w; exact ih _ w
  | mark m k ih => intro w; exact ih w
  | halt h => intro w; exact Nat.le_refl _
theorem runT_ok {α : Type} {p : Program} {s : Sem α} {w w' : World} {es es' : Array Event} {a : α} (h : s.runT p w es = (.ok a w', es')) : w.drawn ≤ w'.drawn := by
  have := runT_drawn p s w es
  rw [h] at this
  exact this
theorem run_ok {α : Type} {p : Program} {s : Sem α} {w w' : World} {a : α} (h : s.run p w = .ok a w') : w.drawn ≤ w'.drawn := by
  have := run_drawn p s w
  rw [h] at this
  exact this
theorem run_no {α : Type} {p : Program} {s : Sem α} {w w' : World} {x : Halt} (h : s.run p w = .halt x w') : w.drawn ≤ w'.drawn := by
  have := run_drawn p s w
  rw [h] at this
  exact this
theorem runT_no {α : Type} {p : Program} {s : Sem α} {w w' : World} {es es' : Array Event} {x : Halt} (h : s.runT p w es = (.halt x w', es')) : w.drawn ≤ w'.drawn := by
  have := runT_drawn p s w es
  rw [h] at this
  exact this
theorem runT_ok1 {α : Type} {p : Program} {s : Sem α} {w w' : World} {es : Array Event} {a : α} (h : (s.runT p w es).1 = .ok a w') : w.drawn ≤ w'.drawn := by
  have := runT_drawn p s w es
  rw [h] at this
  exact this
theorem runT_no1 {α : Type} {p : Program} {s : Sem α} {w w' : World} {es : Array Event} {x : Halt} (h : (s.runT p w es).1 = .halt x w') : w.drawn ≤ w'.drawn := by
  have := runT_drawn p s w es
  rw [h] at this
  exact this
def stepW : GStep → World
  | .go _ w _ => w
  | .comm _ _ _ _ w _ => w
  | .spawn _ _ w _ => w
  | .count _ w _ => w
  | .timer _ _ w _ => w
  | .alone _ _ w _ => w
  | .newcoro _ _ _ w _ => w
  | .coroswitch _ _ _ w _ => w
  | .collect _ w _ => w
  | .watch _ w _ => w
  | .ended _ w _ => w
theorem after_endW (es : Array Event) (s : GStep) : (stepW (s.after es)) = (stepW s) := by cases s <;> rfl
theorem endWith_drawn (w : World) (fd : Nat) (text : ByteArray) (o : Outcome) : w.drawn ≤ (stepW (endWith w fd text o)).drawn := by
  unfold endWith
  have h := sys_drawn w (.write fd text)
  simp only
  split
  · rename_i e
    rw [e] at h
    split <;> exact h
  · rename_i e
    rw [e] at h
    exact h
  · rename_i e
    rw [e] at h
    exact h
theorem endPrinting_drawn (p : Program) (fr : Frame) (v : Value) (w : World) : (stepW (endPrinting p fr v w)) = w := by
  unfold endPrinting
  simp only
  split <;> rfl
theorem endFatal_drawn (p : Program) (fr : Frame) (callers : List Frame) (dying : Option Dying) (m : String) (w : World) : w.drawn ≤ (stepW (endFatal p fr callers dying m w)).drawn := by
  unfold endFatal
  simp only
  split
  · rename_i e; exact run_ok e
  · rename_i e; exact run_no e
  · rename_i e; exact run_no e
theorem writeOn_drawn (p : Program) (fr : Frame) (d : Dying) (f : Fatal) (w : World) : w.drawn ≤ (stepW (writeOn p fr d f w)).drawn := by
  unfold writeOn
  simp only
  split
  · exact Nat.le_refl _
  · split
    all_goals (rename_i e; first | exact runT_ok e | exact runT_no e)
theorem die_drawn (p : Program) (fr : Frame) (d : Dying) (w : World) : w.drawn ≤ (stepW (die p fr d w)).drawn := by
  unfold die
  simp only
  split
  · exact writeOn_drawn _ _ _ _ _
  · split
    · split
      · exact Nat.le_refl _
      · exact endWith_drawn _ _ _ _
    · split
      · exact Nat.le_refl _
      · split
        · rename_i e; exact run_ok e
        · rename_i e; exact run_no e
      · rw [after_endW]
        split
        all_goals (first | (rename_i e; exact runT_ok1 e) | (rename_i e; exact runT_no1 e) | (rename_i e; rw [endPrinting_drawn]; exact runT_no1 e) | exact Nat.le_refl _)
      · exact Nat.le_refl _
theorem ite_all {α : Type} {c : Prop} [Decidable c] {P : α → Prop} {a b : α} (ha : P a) (hb : P b) : P (if c then a else b) := by
  split
  · exact ha
  · exact hb
theorem doReturn_drawn (p : Program) (main : Bool) (fr : Frame) (callers : List Frame) (dying : Option Dying) (v : Value) (w : World) : (stepW (doReturn p main fr callers dying v w)) = w := by
  unfold doReturn
  simp only
  (repeat' split) <;> rfl
theorem callDeferred_drawn (p : Program) (fr : Frame) (callers : List Frame) (dying : Option Dying) (d : Deferred) (w : World) : w.drawn ≤ (stepW (callDeferred p fr callers dying d w)).drawn := by
  unfold callDeferred
  simp only
  refine ite_all (P := fun s : GStep => w.drawn ≤ (stepW s).drawn) (Nat.le_refl _) ?_
  rw [after_endW]
  have hk := runT_drawn p (invoke d.target d.args) w #[]
  generalize (Sem.runT p (invoke d.target d.args) w #[]).1 = r at hk ⊢
  split
  all_goals (try simp only [resW] at hk)
  all_goals (first | exact hk | skip)
  all_goals (repeat' split)
  all_goals (first | exact hk | exact Nat.le_trans hk (endFatal_drawn _ _ _ _ _ _) | skip)
theorem unwind_drawn (p : Program) (main : Bool) (fr : Frame) (callers : List Frame) (dying : Option Dying) (w : World) : w.drawn ≤ (stepW (unwind p main fr callers dying w)).drawn := by
  unfold unwind
  simp only
  split
  · rw [after_endW]
    split
    all_goals (rename_i e; first | exact runT_ok1 e | exact runT_no1 e)
  · exact callDeferred_drawn _ _ _ _ _ _
  · split
    · exact Nat.le_refl _
    · split
      · exact Nat.le_refl _
      · split
        · exact Nat.le_refl _
        · split
          · split
            · exact Nat.le_refl _
            · split
              all_goals (rename_i e; first | exact run_ok e | exact run_no e)
          · split
            · rw [endPrinting_drawn]; exact Nat.le_refl _
            · exact Nat.le_refl _
    · split
      · rw [doReturn_drawn]; exact Nat.le_refl _
      · rw [after_endW]
        split
        all_goals (rename_i e; first | exact runT_no1 e | exact runT_ok1 e | (rw [doReturn_drawn]; exact runT_ok1 e))
theorem early_drawn (p : Program) (fr : Frame) (callers : List Frame) (dying : Option Dying) (g : Nat) (w : World) : w.drawn ≤ (stepW (early p fr callers dying g w)).drawn := by
  have hn : ∀ w1 : World, (stepW (match w1.heap[g]? with
    | some (.pending c elem) => GStep.go { frame := fr, callers, status := .running, dying } { w1 with heap := w1.heap.setIfInBounds g (.cells c elem) }
    | _ => .ended (.stuck "early: the variable does not wait" (fr.pos p)) w1)).drawn = w1.drawn := by
    intro w1
    split <;> rfl
  unfold early
  simp only
  split
  · exact Nat.le_of_eq (hn w).symm
  · split
    · exact Nat.le_refl _
    · split
      · exact Nat.le_of_eq (hn w).symm
      · split
        · exact Nat.le_of_eq (hn w).symm
        · split
          · exact Nat.le_refl _
          · exact Nat.le_refl _
          · exact Nat.le_refl _
          · exact Nat.le_of_eq (hn w).symm
          · split
            · exact Nat.le_refl _
            · split
              · exact Nat.le_of_eq (hn w).symm
              · split
                · rename_i e; exact Nat.le_trans (run_ok e) (Nat.le_of_eq (hn _).symm)
                · rename_i e; exact run_ok e
                · rename_i e; exact run_no e
theorem apply_drawn (p : Program) (listen : Bool) (fr : Frame) (callers : List Frame) (dying : Option Dying) (s : Sem Next) (w : World) : w.drawn ≤ (stepW (stepG.apply p listen fr callers dying s w)).drawn := by
  unfold stepG.apply
  simp only
  rw [after_endW]
  have key : ∀ r : Result Next, (if listen = true then s.runT p w #[] else (s.run p w, #[])).1 = r → w.drawn ≤ (resW r).drawn := by
    intro r h
    split at h
    · rw [← h]; exact runT_drawn _ _ _ _
    · rw [← h]; exact run_drawn _ _ _
  generalize (if listen = true then s.runT p w #[] else (s.run p w, #[])).1 = r at key ⊢
  have hk := key r rfl
  clear key
  split
  all_goals (try simp only [resW] at hk)
  all_goals (first | exact hk | skip)
  all_goals (repeat' split)
  all_goals (first | exact hk | exact Nat.le_trans hk (endFatal_drawn _ _ _ _ _ _) | exact Nat.le_trans hk (early_drawn _ _ _ _ _ _) | skip)
theorem oper_drawn (p : Program) (listen : Bool) (fr : Frame) (callers : List Frame) (dying : Option Dying) (w : World) : w.drawn ≤ (stepW (stepG.oper p listen fr callers dying w)).drawn := by
  unfold stepG.oper
  split
  · exact Nat.le_refl _
  · split
    · exact apply_drawn _ _ _ _ _ _ _
    · exact apply_drawn _ _ _ _ _ _ _
theorem elim_all {α β : Type} {P : β → Prop} (o : Option α) {d : β} {f : α → β} (h1 : P d) (h2 : ∀ k, P (f k)) : P (o.elim d f) := by
  cases o with
  | none => exact h1
  | some k => exact h2 k
theorem exec_drawn (p : Program) (main listen : Bool) (fr : Frame) (callers : List Frame) (dying : Option Dying) (w : World) : w.drawn ≤ (stepW (stepG.exec p main listen fr callers dying w)).drawn := by
  have hl : ∀ jump : Option Code, w.drawn ≤ (stepW (match fr.roundOf with
      | none => if jump matches none | some .ret then GStep.go { frame := { fr with mode := .returning }, callers, status := .running, dying } w else .ended (.stuck "exit, goto: no such block or label" (fr.pos p)) w
      | some l =>
        let (r, es) := (Instr.endRound l jump).runT p w #[]
        GStep.after (seen p fr.fn es) <| match r with
        | .ok v w => doReturn p main fr callers dying v w
        | .halt _ w => .ended (.stuck "range over a function: no such loop" (fr.pos p)) w)).drawn := by
    intro jump
    split
    · exact ite_all (P := fun s : GStep => w.drawn ≤ (stepW s).drawn) (Nat.le_refl _) (Nat.le_refl _)
    · simp only
      rw [after_endW]
      split
      · rename_i e; rw [doReturn_drawn]; exact runT_ok1 e
      · rename_i e; exact runT_no1 e
  unfold stepG.exec
  simp only
  split
  all_goals (first | exact Nat.le_refl _ | exact hl _ | exact apply_drawn _ _ _ _ _ _ _ | skip)
  all_goals (first | refine elim_all (P := fun s : GStep => w.drawn ≤ (stepW s).drawn) _ ?_ (fun k => Nat.le_refl _) | refine elim_all (P := fun s : GStep => w.drawn ≤ (stepW s).drawn) _ (Nat.le_refl _) (fun k => apply_drawn _ _ _ _ _ _ _) | skip)
  all_goals (repeat' (first | exact Nat.le_refl _ | rw [after_endW] | split))
  all_goals (first | exact Nat.le_refl _ | (rename_i e; first | exact runT_ok1 e | exact runT_no1 e | (rw [doReturn_drawn]; exact runT_ok1 e) | exact run_ok e | exact run_no e | exact Nat.le_trans (runT_ok1 e) (apply_drawn _ _ _ _ _ _ _) | exact oper_drawn _ _ _ _ _ _) | exact oper_drawn _ _ _ _ _ _ | skip)
theorem stepG_drawn (p : Program) (main : Bool) (g : Goroutine) (w : World) (listen : Bool) : w.drawn ≤ (stepW (stepG p main g w listen)).drawn := by
  unfold stepG
  simp only
  split
  · exact die_drawn _ _ _ _
  · exact exec_drawn _ _ _ _ _ _ _
  · exact unwind_drawn _ _ _ _ _ _
/-- What comes next has drawn no less. -/
def Stepped.after (w : World) (s : Stepped) : Prop := ∀ m, s = .next m → w.drawn ≤ m.world.drawn
theorem after_ended {w w' : World} {o : Outcome} : Stepped.after w (.ended o w') := fun m h => by cases h
theorem after_next {w : World} {m : Machine} (h : w.drawn ≤ m.world.drawn) : Stepped.after w (.next m) := fun m' h' => by cases h'; exact h
theorem waitingAt_drawn {rest : Rest} {cases_ : Array CommCase} {w w' : World} (h : waitingAt rest cases_ w = some w') : w'.drawn = w.drawn := by
  unfold waitingAt at h
  split at h
  · split at h
    · cases h; rfl
    · cases h
  · cases h; rfl
theorem communicate_drawn (p : Program) (rest : Rest) (gs : Array Goroutine) (i : Nat) (g : Goroutine) (cs : Array CommCase) (blocking : Bool) (shape : CommShape) (w : World) : Stepped.after w (communicate p rest gs i g cs blocking shape w).1 := by
  unfold communicate
  simp only
  refine ite_all (P := fun s : Stepped × Array MemOp => Stepped.after w s.1) after_ended ?_
  refine ite_all (P := fun s : Stepped × Array MemOp => Stepped.after w s.1) ?_ ?_
  · refine ite_all (P := fun s : Stepped × Array MemOp => Stepped.after w s.1) ?_ (after_next (Nat.le_refl _))
    split
    · rename_i e
      exact after_next (Nat.le_of_eq (waitingAt_drawn e).symm)
    · exact after_ended
  · split
    · exact after_ended
    · rename_i e
      have hk := run_ok e
      clear e
      split
      · split
        · rename_i e
          exact after_next (Nat.le_trans hk (run_no e))
        · exact after_ended
      · exact after_next hk
      · exact after_next hk
      · split
        · exact after_next hk
        · split
          · rename_i e
            exact after_next (Nat.le_trans hk (by have := run_ok e; exact this))
          · exact after_ended
      · exact after_next hk
      · exact after_next hk
      · exact after_ended
theorem look_drawn (p : Program) (gs : Array Goroutine) (rest : Rest) (w : World) : Stepped.after w (look p gs rest w) := by
  unfold look
  split
  · simp only
    refine ite_all (P := fun s : Stepped => Stepped.after w s) after_ended ?_
    split
    · exact after_ended
    · split
      · rename_i e
        exact after_next (by have := run_ok e; exact this)
      · exact after_ended
      · exact after_ended
  · exact after_ended
theorem serve_drawn (p : Program) (m : Machine) (k : Nat) : Stepped.after m.world (serve p m k) := by
  unfold serve
  split
  · exact after_ended
  · exact after_next (Nat.le_refl _)
  · simp only
    split
    · exact after_ended
    · exact after_next (Nat.le_refl _)
theorem drain_drawn (w : World) (c : Nat) : (drain w c).2.drawn = w.drawn := by
  unfold drain
  split <;> rfl
theorem retime_drawn (m : Machine) (k : Nat) (t : Timer) (a b : Nat) : (retime m k t a b).2.world.drawn = m.world.drawn := by
  unfold retime
  cases t.chan with
  | none => rfl
  | some c => exact drain_drawn _ _
theorem opened_drawn {m m' : Machine} {var : Addr} (h : timerOp.opened m var = some m') : m'.world.drawn = m.world.drawn := by
  unfold timerOp.opened at h
  split at h
  · split at h
    · cases h; rfl
    · cases h
  · cases h; rfl
theorem named_drawn {m m' : Machine} {var : Addr} {f : Nat → Timer → Value × Machine} {v : Value} {d : Nat} (hf : ∀ k t, (f k t).2.world.drawn = d) (h : timerOp.named m var f = .ok (v, m')) : m'.world.drawn = d := by
  unfold timerOp.named at h
  split at h
  · rename_i k _
    have := hf k (m.rest.timers.getD k default)
    generalize f k (m.rest.timers.getD k default) = r at this h
    cases h
    exact this
  · cases h
theorem timerOp_drawn {m m' : Machine} {op : TimerOp} {v : Value} (h : timerOp m op = .ok (v, m')) : m'.world.drawn = m.world.drawn := by
  unfold timerOp at h
  split at h
  · split at h
    · cases h; rfl
    · split at h
      · split at h
        · cases h
        · cases h; rfl
      · cases h
  · exact named_drawn (fun k t => retime_drawn _ _ _ _ _) h
  · split at h
    · rename_i e
      exact named_drawn (fun k t => (retime_drawn _ _ _ _ _).trans (opened_drawn e)) h
    · cases h
  · cases h; rfl
theorem machineRun_drawn (p : Program) (m : Machine) (i : Nat) (listen : Bool) : Stepped.after m.world (runT p m i listen).1 := by
  unfold runT
  simp only
  have hk := stepG_drawn p (i == 0) (m.gs.swapAt! i { (default : Goroutine) with status := .finished }).1 m.world listen
  generalize stepG p (i == 0) (m.gs.swapAt! i { (default : Goroutine) with status := .finished }).1 m.world listen = s at hk ⊢
  cases s with
  | ended o w es => exact after_ended
  | comm g cs b sh w es => 
    intro m' h'
    exact Nat.le_trans hk (communicate_drawn _ _ _ _ _ _ _ _ _ m' h')
  | go g w es => exact after_next hk
  | spawn g c w es => exact after_next hk
  | count g w es => exact ite_all (P := fun s : Stepped => Stepped.after m.world s) after_ended (after_next hk)
  | alone g on w es => exact after_next hk
  | collect g w es =>
    intro m' h'
    exact Nat.le_trans hk (look_drawn _ _ _ _ m' h')
  | watch g w es => exact after_next hk
  | newcoro g c d w es => exact after_next hk
  | coroswitch g c ex w es =>
    simp only
    split
    · exact after_next hk
    · exact after_next hk
    · exact after_ended
  | timer g op w es =>
    simp only
    split
    · rename_i e
      exact after_next (Nat.le_trans hk (Nat.le_of_eq (timerOp_drawn e).symm))
    · exact after_next hk
    · exact after_ended
    · exact after_ended
def Move.after (w : World) : Move → Prop
  | .goroutine m _ => w.drawn ≤ m.world.drawn
  | .machine s _ => Stepped.after w s
theorem Move.trans {w w1 : World} {m : Move} (h : w.drawn ≤ w1.drawn) (k : Move.after w1 m) : Move.after w m := by
  cases m with
  | goroutine m i => exact Nat.le_trans h k
  | machine s ops => exact fun m' h' => Nat.le_trans h (k m' h')
theorem pick_drawn (p : Program) (rs : List Nat) (m : Machine) : Move.after m.world (match (choose (.sched rs.length)).run p m.world with
      | .halt _ w => .machine (.ended (.stuck "sched" "") w)
      | .ok k world =>
        if rs.length ≤ 1 then .goroutine { m with world } (rs.getD k 0) else
        match (choose (.extern "sched.slice" 65536)).run p world with
        | .halt _ w => .machine (.ended (.stuck "sched.slice" "") w)
        | .ok n world => .goroutine { m with world, rest := { m.rest with slice := if n = 0 then none else some (rs.getD k 0, n) } } (rs.getD k 0)) := by
  split
  · exact after_ended
  · rename_i e
    have hk := run_ok e
    refine ite_all (P := fun s : Move => Move.after m.world s) hk ?_
    split
    · exact after_ended
    · rename_i e2
      exact Nat.le_trans hk (run_ok e2)
theorem askOn_drawn (p : Program) (m : Machine) : Move.after m.world (askOn p m) := by
  unfold askOn
  simp only
  split
  · exact after_ended
  · rename_i e
    have hk := run_ok e
    refine ite_all (P := fun s : Move => Move.after m.world s) (fun m' h' => Nat.le_trans hk (serve_drawn _ _ _ m' h')) ?_
    split
    · split
      · exact after_next hk
      · refine ite_all (P := fun s : Move => Move.after m.world s) (after_next hk) ?_
        split <;> exact after_ended
    · split
      · exact Move.trans hk (pick_drawn p _ { m with world := _ })
      · split
        · exact after_ended
        · rename_i e2
          exact Move.trans (Nat.le_trans hk (run_ok e2)) (pick_drawn p _ { m with world := _ })
        · rename_i e2
          exact after_next (Nat.le_trans hk (by have := run_ok e2; exact this))
        · rename_i e2
          exact Move.trans (Nat.le_trans hk (run_ok e2)) (pick_drawn p _ (Machine.advanceTo { m with world := _ } _))
theorem ask_drawn' (p : Program) (m : Machine) : Move.after m.world (ask p m) := by
  unfold ask
  split
  · split
    · exact after_ended
    · rename_i e
      have hk := run_ok e
      have hl := look_drawn p m.gs m.rest ‹World›
      split
      · rename_i m' e2
        exact Move.trans (Nat.le_trans hk (hl _ e2)) (askOn_drawn p m')
      · intro m' h'
        exact Nat.le_trans hk (hl _ h')
    · rename_i e
      exact Move.trans (run_ok e) (askOn_drawn p { m with world := _ })
  · exact askOn_drawn p m
theorem move_drawn (p : Program) (m : Machine) : Move.after m.world (move p m) := by
  unfold move
  split
  · split
    · exact Nat.le_refl _
    · exact after_ended
  · split
    · split
      · exact Nat.le_refl _
      · exact ask_drawn' p { m with rest := _ }
    · exact ask_drawn' p m
theorem step_drawn (p : Program) (m : Machine) : Stepped.after m.world (step p m) := by
  unfold step stepT
  have h := move_drawn p m
  generalize move p m = v at h
  cases v with
  | goroutine m' i => exact fun m2 h2 => Nat.le_trans h (machineRun_drawn p m' i true m2 h2)
  | machine s ops => exact h
theorem runN_drawn (p : Program) : ∀ (n : Nat) (m m' : Machine), runN p n m = .next m' → m.world.drawn ≤ m'.world.drawn
  | 0, m, m', h => by cases h; exact Nat.le_refl _
  | n + 1, m, m', h => by
    have hs := step_drawn p m
    unfold runN at h
    cases e : step p m with
    | next m1 => rw [e] at h; exact Nat.le_trans (hs m1 e) (runN_drawn p n m1 m' h)
    | ended o w => rw [e] at h; cases h
/-- A call never takes back what was drawn. -/
theorem calls_drawn {P : Program} {f : FuncId} {args : Array Value} {w : World} {R : Ending → World → Prop} (h : Calls P f args w R) : Calls P f args w fun e w' => R e w' ∧ (e ≠ .outgrown → w.drawn ≤ w'.drawn) := by
  intro cs
  obtain ⟨e, w', fr, hR, hc, hrest⟩ := h cs
  refine ⟨e, w', fr, ⟨hR, fun hne => ?_⟩, hc, hrest⟩
  cases e with
  | outgrown => exact absurd rfl hne
  | returned v => obtain ⟨n, hn⟩ := hc; exact runN_drawn P n _ _ hn
  | panicked c => obtain ⟨n, hn⟩ := hc; exact runN_drawn P n _ _ hn
end Go.Proofs.YtpgklnhkfgbpgaaGreatDoor
