/- A law's own tree: Look, Unlink, Rmdir, Rename, Drop, List. The tree and the reference's, side by side. TreeIds, plainly. -/
import Derived.Test.YtbapdoicejakhaaGreatM28
import Derived.Test.YtbapdoicejakhaaGreatM20
import Derived.Test.YtbapdoicejakhaaGreatM34
import Derived.Test.YtbapdoicejakhaaGreatM35
namespace Go.Proofs.YtbapdoicejakhaaGreat
open Go.ChangeShapes Go.WideShapes Go.ChangeAt Go.RowKit
set_option linter.unusedVariables false
set_option linter.unusedSimpArgs false
section
variable {W w : World} {P : Nat → Prop} {p : Nat} {T : TrM}
theorem in_look {S : Nat → Prop} (h : TreeIn W P w p T) (a : Option Addr) (n c : Nat) (ls : List Nm) (hS : StrsAt S w a n (ls.map strOf)) :
    Calls Tryz.prog 47 #[ptr p, .slice a n c] w fun e w' => e = .returned (.tuple #[.int .i64 (lookE T ls).1, .int .i64 (lookE T ls).2]) ∧ Below w.heap.size w w' := by
  obtain ⟨g, D, mb, ib, nb, hA, hF⟩ := h.at_
  exact Look_at a n c ls w hA h.ok hS
theorem in_unlink {S : Nat → Prop} (h : TreeIn W P w p T) (a : Option Addr) (n c : Nat) (ls : List Nm) (hS : StrsAt S w a n (ls.map strOf)) (hc : n ≤ c) (hn8 : n ≤ 1000000) :
    Calls Tryz.prog 26 #[ptr p, .slice a n c] w (InTurned W P w p (unlinkM T ls).2 (.int .i64 (unlinkM T ls).1)) := by
  obtain ⟨g, D, mb, ib, nb, hA, hF⟩ := h.at_
  exact (unlink_at a n c ls w hA h.ok hS hc hn8).mono fun e w' ht => TreeIn.of_turn hF h.below h.low ht (h.ok.unlinkM _)
theorem in_rmdir {S : Nat → Prop} (h : TreeIn W P w p T) (a : Option Addr) (n c : Nat) (ls : List Nm) (hS : StrsAt S w a n (ls.map strOf)) (hc : n ≤ c) (hn8 : n ≤ 1000000) :
    Calls Tryz.prog 18 #[ptr p, .slice a n c] w (InTurned W P w p (rmdirM T ls).2 (.int .i64 (rmdirM T ls).1)) := by
  obtain ⟨g, D, mb, ib, nb, hA, hF⟩ := h.at_
  exact (rmdir_at a n c ls w hA h.ok hS hc hn8).mono fun e w' ht => TreeIn.of_turn hF h.below h.low ht (h.ok.rmdirM _)
theorem in_rename {S S' : Nat → Prop} (h : TreeIn W P w p T) (hO : Okay T) (a : Option Addr) (n c : Nat) (ls : List Nm) (a' : Option Addr) (n' c' : Nat) (ls' : List Nm) (hS : StrsAt S w a n (ls.map strOf)) (hS' : StrsAt S' w a' n' (ls'.map strOf)) (hc : n ≤ c) (hn8 : n ≤ 1000000) (hc' : n' ≤ c') (hn8' : n' ≤ 1000000) :
    Calls Tryz.prog 51 #[ptr p, .slice a n c, .slice a' n' c'] w (InTurned W P w p (renameM T ls ls').2 (.int .i64 (renameM T ls ls').1)) := by
  obtain ⟨g, D, mb, ib, nb, hA, hF⟩ := h.at_
  exact (rename_at a n c ls a' n' c' ls' w hA hO hS hS' hc hn8 hc' hn8').mono fun e w' ht => TreeIn.of_turn hF h.below h.low ht (hO.renameM _ _).1
theorem in_drop (h : TreeIn W P w p T) (id : Int) (hid : (Lit.int .i64 id).wf = true) :
    Calls Tryz.prog 36 #[ptr p, .int .i64 id] w (InTurned W P w p (dropM T id).2 (.int .i64 (dropM T id).1)) := by
  obtain ⟨g, D, mb, ib, nb, hA, hF⟩ := h.at_
  exact (drop_at id h.ok w hA hid).mono fun e w' ht => TreeIn.of_turn hF h.below h.low ht (h.ok.dropM _)
theorem in_list (h : TreeIn W P w p T) (id : Int) (hid : (Lit.int .i64 id).wf = true) : Calls Tryz.prog 49 #[ptr p, .int .i64 id] w (NewList w (listM T id)) := by
  obtain ⟨g, D, mb, ib, nb, hA, hF⟩ := h.at_
  exact list_at id w hA h.ok hid
end
end Go.Proofs.YtbapdoicejakhaaGreat
namespace Go.Proofs.YtbapdoicejakhaaGreat
open Go.ChangeShapes Go.WideShapes Go.ChangeAt Go.RowKit
set_option linter.unusedVariables false
set_option linter.unusedSimpArgs false

/-- No name is long. -/
def Short (T : TrM) : Prop := ∀ q ∈ T, ∀ e ∈ q.2.names, e.1.length ≤ 1
theorem Short.amod {T : TrM} (h : Short T) (k : Int) {f : ItM → ItM} (hf : ∀ x : ItM, (∀ e ∈ x.names, e.1.length ≤ 1) → ∀ e ∈ (f x).names, e.1.length ≤ 1) : Short (Go.Proofs.YtbapdoicejakhaaGreat.amod k f T) := fun q hq => by
  rcases amod_mem hq with h1 | ⟨p, hp, _, rfl⟩
  · exact h q h1
  · exact hf p.2 (h p hp)
theorem Short.same {T : TrM} (h : Short T) (k : Int) {f : ItM → ItM} (hf : ∀ x, (f x).names = x.names) : Short (Go.Proofs.YtbapdoicejakhaaGreat.amod k f T) := h.amod k fun x hx => by rw [hf]; exact hx
theorem Short.set {T : TrM} (h : Short T) (d : Int) {n : Nm} (hn : n.length ≤ 1) (id : Int) : Short (setName T d n id) := h.amod d fun x hx => names_set (P := fun e => e.1.length ≤ 1) hx hn
theorem Short.cut {T : TrM} (h : Short T) (d : Int) (n : Nm) : Short (cutName T d n) := h.amod d fun x hx e he => hx e (List.mem_filter.1 he).1
theorem Short.del {T : TrM} (h : Short T) (k : Int) : Short (adel k T) := fun q hq => h q (List.mem_filter.1 hq).1
theorem Short.add {T : TrM} (h : Short T) (f kind : Int) : Short (aput ilt f (freshM kind) T) := fun q hq => by
  rcases (mem_ains ilt).1 hq with rfl | h1
  · intro e he; cases he
  · exact h q (List.mem_filter.1 h1).1
theorem Short.settle {T : TrM} (h : Short T) (k : Int) : Short (settleM T k) := by
  unfold settleM
  cases aget k T with
  | none => exact h
  | some x =>
    simp only
    split
    · exact h.del k
    · exact h
theorem place_short (T : TrM) {p : List Nm} (hp : ∀ n ∈ p, n.length ≤ 1) : (placeM T p).2.1.length ≤ 1 := by
  have hl : (p.getLastD []).length ≤ 1 := by
    rw [List.getLastD_eq_getLast?]
    cases h : p.getLast? with
    | none => simp
    | some n => exact hp n (List.mem_of_getLast? h)
  unfold placeM
  split
  · simp
  · split
    · simp
    · split
      · exact hl
      · simp
def Oky (T : TrM) : Prop := Okay T ∧ Short T
theorem Oky.makeM {T : TrM} (h : Oky T) {p : List Nm} (hp : ∀ n ∈ p, n.length ≤ 1) (kind : Int) : Oky (Go.Proofs.YtbapdoicejakhaaGreat.makeM T p kind).2 := by
  refine ⟨h.1.makeM _ _, ?_⟩
  unfold Go.Proofs.YtbapdoicejakhaaGreat.makeM
  split
  · exact (h.2.add _ _).set _ (place_short T hp) _
  · exact h.2
theorem Oky.linkM {T : TrM} (h : Oky T) (p : List Nm) {q : List Nm} (hq : ∀ n ∈ q, n.length ≤ 1) : Oky (Go.Proofs.YtbapdoicejakhaaGreat.linkM T p q).2 := by
  refine ⟨h.1.linkM _ _, ?_⟩
  unfold Go.Proofs.YtbapdoicejakhaaGreat.linkM
  simp only
  split
  · exact (h.2.set _ (place_short T hq) _).same _ (fun _ => by exact rfl)
  · exact h.2
theorem Oky.unlinkM {T : TrM} (h : Oky T) (p : List Nm) : Oky (Go.Proofs.YtbapdoicejakhaaGreat.unlinkM T p).2 := by
  refine ⟨h.1.unlinkM _, ?_⟩
  unfold Go.Proofs.YtbapdoicejakhaaGreat.unlinkM
  simp only
  split
  · exact (((h.2.cut _ _).same _ (f := fun x => { x with links := x.links - 1 }) (fun _ => by exact rfl))).settle _
  · exact h.2
theorem Oky.rmdirM {T : TrM} (h : Oky T) (p : List Nm) : Oky (Go.Proofs.YtbapdoicejakhaaGreat.rmdirM T p).2 := by
  refine ⟨h.1.rmdirM _, ?_⟩
  unfold Go.Proofs.YtbapdoicejakhaaGreat.rmdirM
  simp only
  split
  · exact (h.2.cut _ _).del _
  · exact h.2
theorem Oky.renameM {T : TrM} (h : Oky T) (p : List Nm) {q : List Nm} (hq : ∀ n ∈ q, n.length ≤ 1) : Oky (Go.Proofs.YtbapdoicejakhaaGreat.renameM T p q).2 := by
  refine ⟨h.1.renameM _ _, ?_⟩
  unfold Go.Proofs.YtbapdoicejakhaaGreat.renameM
  simp only
  split
  · exact (h.2.cut _ _).set _ (place_short T hq) _
  · exact h.2
theorem Oky.appendM {T : TrM} (h : Oky T) (id : Int) (b : List UInt8) : Oky (Go.Proofs.YtbapdoicejakhaaGreat.appendM T id b).2 := by
  refine ⟨h.1.appendM _ _, ?_⟩
  unfold Go.Proofs.YtbapdoicejakhaaGreat.appendM
  simp only
  split
  · exact h.2.same _ (fun _ => by exact rfl)
  · exact h.2
theorem Oky.sealM {T : TrM} (h : Oky T) (id til : Int) (h0 : 0 ≤ til) : Oky (Go.Proofs.YtbapdoicejakhaaGreat.sealM T id til).2 := by
  refine ⟨h.1.sealM _ _ h0, ?_⟩
  unfold Go.Proofs.YtbapdoicejakhaaGreat.sealM
  simp only
  split
  · exact (h.2.same _ (f := fun x => { x with closed := true, til := til }) (fun _ => by exact rfl)).settle _
  · exact h.2
theorem Oky.keepM {T : TrM} (h : Oky T) (id til : Int) (h0 : 0 ≤ til) : Oky (Go.Proofs.YtbapdoicejakhaaGreat.keepM T id til).2 := by
  refine ⟨h.1.keepM _ _ h0, ?_⟩
  unfold Go.Proofs.YtbapdoicejakhaaGreat.keepM
  simp only
  split
  · exact h.2.same _ (fun _ => by exact rfl)
  · exact h.2
theorem Oky.dropM {T : TrM} (h : Oky T) (id : Int) : Oky (Go.Proofs.YtbapdoicejakhaaGreat.dropM T id).2 := by
  refine ⟨h.1.dropM _, ?_⟩
  unfold Go.Proofs.YtbapdoicejakhaaGreat.dropM
  simp only
  split
  · rw [dropOk_eq]
    refine Short.del (fun q hq e he => ?_) _
    unfold stripM at hq
    obtain ⟨p, hp, rfl⟩ := List.mem_map.1 hq
    exact h.2 p hp e (List.mem_filter.1 he).1
  · exact h.2
theorem Oky.new : Oky newM := ⟨Okay.new, fun q hq e he => by
  unfold newM at hq
  simp only [List.mem_singleton] at hq
  subst hq
  cases he⟩
/-- Both hold the same tree; what Q names is neither's. -/
structure BothP (W : World) (Q P F : Nat → Prop) (w : World) (t r : Nat) (T : TrM) : Prop where
  tree : TreeIn W P w t T
  ref : RefAt F w r T
  inP : ∀ x, F x → P x ∧ W.heap.size ≤ x
  inQ : ∀ x, Q x → P x ∧ ¬ F x
  okay : Oky T
def BothT (W : World) (Q : Nat → Prop) (w : World) (t r : Nat) (T : TrM) : Prop := ∃ P F, BothP W Q P F w t r T
section
variable {W w w1 w2 : World} {Q P F : Nat → Prop} {t r : Nat} {T T' : TrM}
theorem BothP.below (h : BothP W Q P F w t r T) (hb : Below w.heap.size w w1) : BothP W Q P F w1 t r T := ⟨h.tree.grow hb, h.ref.below hb (Nat.le_refl _), h.inP, h.inQ, h.okay⟩
/-- What is new is shielded from now on. -/
theorem BothP.shield (h : BothP W Q P F w t r T) (hb : Below w.heap.size w w1) : BothP W (fun x => Q x ∨ (w.heap.size ≤ x ∧ x < w1.heap.size)) (fun x => P x ∨ (w.heap.size ≤ x ∧ x < w1.heap.size)) F w1 t r T := by
  refine ⟨h.tree.shield hb, h.ref.below hb (Nat.le_refl _), fun x hx => ⟨.inl (h.inP x hx).1, (h.inP x hx).2⟩, fun x hx => ?_, h.okay⟩
  rcases hx with hx | hx
  · exact ⟨.inl (h.inQ x hx).1, (h.inQ x hx).2⟩
  · exact ⟨.inr hx, fun hf => by have := h.ref.low x hf; omega⟩
theorem BothP.mono {Q' : Nat → Prop} (h : BothP W Q P F w t r T) (hq : ∀ x, Q' x → Q x) : BothP W Q' P F w t r T := ⟨h.tree, h.ref, h.inP, fun x hx => h.inQ x (hq x hx), h.okay⟩
/-- Behind the tree's call the reference stands as it stood. -/
theorem BothP.mid {v : Value} {e : Ending} (h : BothP W Q P F w t r T) (h1 : InTurned W P w t T' v e w1) : RefAt F w1 r T :=
  h.ref.keeps h1.2.2 fun b hb hw => hw.2 (h.inP b hb).1
theorem TreeIn.over (h : TreeIn W P w1 t T') (hK : Keeps (fun x => x = r) w1 w2) (hr : P r) (hW : W.heap.size ≤ r) : TreeIn W (fun x => P x ∨ (w1.heap.size ≤ x ∧ x < w2.heap.size)) w2 t T' := by
  obtain ⟨g, D, mb, ib, nb, hA, hF⟩ := h.at_
  have hs := h.below.size
  refine ⟨⟨g, D, mb, ib, nb, hA.keeps hK fun b hb he => (hF b hb).2 (he ▸ hr), fun b hb => ⟨(hF b hb).1, fun hp => ?_⟩⟩, h.ok, h.below.trans (hK.to_below hs fun x hx he => by omega), fun x hx => ?_⟩
  · rcases hp with hp | hp
    · exact (hF b hb).2 hp
    · rcases hb with hb | hb
      · have := hA.low b hb; omega
      · have := hA.dlow b hb; omega
  · rcases hx with hx | hx
    · have := h.low x hx; have := hK.size; omega
    · exact hx.2
/-- Both are turned alike. -/
theorem BothP.step {v1 v2 : Value} {e1 e2 : Ending} (h : BothP W Q P F w t r T) (h1 : InTurned W P w t T' v1 e1 w1) (h2 : RTurn F w1 r T' v2 e2 w2) (hO : Oky T') : BothT W Q w2 t r T' ∧ (∀ b, Q b → w2.heap[b]? = w.heap[b]?) ∧ w.heap.size ≤ w2.heap.size ∧ Below W.heap.size W w2 := by
  have hr := h.inP r h.ref.own
  have h3 := h1.2.1.over h2.2.1 hr.1 hr.2
  have hlow := h1.2.1.low
  refine ⟨⟨_, _, h3, h2.2.2, fun x hx => ?_, fun x hx => ⟨.inl (h.inQ x hx).1, fun hf => ?_⟩, hO⟩, fun b hb => ?_, Nat.le_trans h1.2.2.size h2.2.1.size, h3.below⟩
  · rcases hx with hx | hx
    · exact ⟨.inl (h.inP x hx).1, (h.inP x hx).2⟩
    · have := h1.2.1.below.size
      exact ⟨.inr hx, by omega⟩
  · rcases hf with hf | hf
    · exact (h.inQ x hx).2 hf
    · have := hlow x (h.inQ x hx).1; omega
  · have hb1 := h.inQ b hb
    have hbw := h.tree.low b hb1.1
    rw [h2.2.1.block b (hlow b hb1.1) (fun he => hb1.2 (he ▸ h.ref.own))]
    exact h1.2.2.block b hbw (fun hw => hw.2 hb1.1)
/-- Nothing is turned, memory is made. -/
theorem BothP.rest (h : BothP W Q P F w t r T) (hb : Below w.heap.size w w1) : BothT W Q w1 t r T ∧ (∀ b, Q b → w1.heap[b]? = w.heap[b]?) ∧ w.heap.size ≤ w1.heap.size ∧ Below W.heap.size W w1 :=
  ⟨⟨_, _, h.below hb⟩, fun b hbq => hb.block b (h.tree.low b (h.inQ b hbq).1), hb.size, h.tree.below.trans (hb.mono h.tree.below.size)⟩
end
end Go.Proofs.YtbapdoicejakhaaGreat
namespace Go.Proofs.YtbapdoicejakhaaGreat
open Go.ChangeShapes Go.WideShapes Go.ChangeAt Go.RowKit
set_option linter.unusedVariables false
set_option linter.unusedSimpArgs false

def nmNew : Nm := [110, 101, 119]
def nmOther : Nm := [111, 116, 104, 101, 114]
theorem place_one {T : TrM} (hT : OkM T) (n : Nm) : placeM T [n] = (0, n, 0) := by
  unfold placeM
  rw [if_neg (by simp)]
  have e1 : ([n] : List Nm).dropLast = [] := rfl
  have e2 : lookM T 0 [] = (0, 0) := rfl
  rw [e1, e2, if_neg (by simp), if_pos hT.root]
  rfl
theorem short_none {T : TrM} (hS : Short T) {n : Nm} (hn : 2 ≤ n.length) (d : Int) : aget n (namesM T d) = none := by
  rw [aget_none]
  intro e he hen
  unfold namesM at he
  cases hx : aget d T with
  | none => rw [hx] at he; cases he
  | some x =>
    rw [hx] at he
    have := hS _ (aget_mem hx) e he
    rw [hen] at this
    omega
theorem mk_one {T : TrM} (hO : Oky T) {n : Nm} (hn : 2 ≤ n.length) (hf : fineL [n] = 0) {kind : Int} (hk : kind = 1 ∨ kind = 2) : makeE T [n] kind = if 64 ≤ T.length then 4 else 0 := by
  unfold makeE
  rw [hf, if_neg (by simp), if_neg (fun h => h hk), place_one hO.1.1, if_neg (by simp)]
  simp only
  rw [short_none hO.2 hn, if_neg (by simp)]
/-- Behind the first. -/
def ids1 (T : TrM) (f : Int) : TrM := setName (aput ilt f (freshM 2) T) 0 nmNew f
section
variable {T : TrM} {f : Int}
theorem ids1_root (hO : Oky T) (hf : aget f T = none) : ∃ x, aget 0 T = some x ∧ x.kind = 2 ∧ aget 0 (ids1 T f) = some { x with names := aput bytesBefore nmNew f x.names } ∧ aget nmNew x.names = none ∧ f ≠ 0 := by
  obtain ⟨x, hx, hk⟩ := kindM_some hO.1.1.root
  have h0 : f ≠ 0 := fun e => by rw [e, hx] at hf; cases hf
  refine ⟨x, hx, hk, ?_, ?_, h0⟩
  · unfold ids1 setName
    rw [aget_amod, if_pos rfl, aget_aput, if_neg (Ne.symm h0), hx]
    rfl
  · have := short_none (n := nmNew) hO.2 (by decide) 0
    rwa [namesM_of hx] at this
theorem ids1_new (hO : Oky T) (hf : aget f T = none) : aget f (ids1 T f) = some (freshM 2) := by
  obtain ⟨x, hx, _, _, _, h0⟩ := ids1_root hO hf
  unfold ids1 setName
  rw [aget_amod, if_neg h0, aget_aput, if_pos rfl]
theorem ids1_len (hf : aget f T = none) : (ids1 T f).length = T.length + 1 := by
  unfold ids1 setName
  rw [amod_length, length_aput _ hf]
theorem ids_first (hO : Oky T) (h : T.length < 64) {f : Nat} (hf : freeM T = f) : makeM T [nmNew] 2 = (((f : Int), 0), ids1 T f) := by
  have he : makeE T [nmNew] 2 = 0 := by
    rw [mk_one hO (by decide) (by decide) (.inr rfl)]
    exact if_neg (by omega)
  unfold makeM makeOk
  rw [he, if_pos rfl, place_one hO.1.1, hf]
  rfl
theorem ids_again (hO : Oky T) (hO1 : OkM (ids1 T f)) (hf : aget f T = none) : makeM (ids1 T f) [nmNew] 1 = ((0, 21), ids1 T f) := by
  obtain ⟨x, hx, hk, h1, hn, h0⟩ := ids1_root hO hf
  have he : makeE (ids1 T f) [nmNew] 1 = 21 := by
    unfold makeE
    rw [show fineL [nmNew] = 0 by decide, if_neg (by simp), if_neg (by simp), place_one hO1, if_neg (by simp)]
    simp only
    rw [namesM_of h1]
    simp only
    rw [aget_aput, if_pos rfl, if_pos (by rfl)]
  unfold makeM
  rw [he, if_neg (by simp)]
theorem ids_back (hO : Oky T) (hO1 : OkM (ids1 T f)) (hf : aget f T = none) : rmdirM (ids1 T f) [nmNew] = (0, T) := by
  obtain ⟨x, hx, hk, h1, hn, h0⟩ := ids1_root hO hf
  have hnew := ids1_new hO hf
  have hlk : lookM (ids1 T f) 0 [nmNew] = (f, 0) := by
    unfold lookM
    rw [h1]
    simp only
    rw [if_pos hk, aget_aput, if_pos rfl]
    rfl
  have hle : lookE (ids1 T f) [nmNew] = (f, 0) := by unfold lookE; rw [show fineL [nmNew] = 0 by decide, if_neg (by simp), hlk]
  have he : rmdirE (ids1 T f) [nmNew] = 0 := by
    unfold rmdirE
    rw [hle, if_neg (by simp), hlk, kindM_of hnew, namesM_of hnew]
    simp [freshM, h0]
  unfold rmdirM rmdirOk
  rw [he, if_pos rfl, hlk, place_one hO1]
  refine Prod.ext rfl ?_
  simp only
  refine asorted_ext iltLaws ((amod_sorted _ _ hO1.sorted).adel _) hO.1.1.sorted fun k => ?_
  rw [aget_adel]
  by_cases hkf : k = f
  · rw [if_pos hkf, hkf, hf]
  · rw [if_neg hkf]
    unfold cutName
    rw [aget_amod]
    by_cases hk0 : k = 0
    · rw [if_pos hk0, hk0, h1, hx]
      simp only [Option.map_some, Option.some.injEq]
      have hs := (hO.1.1.each 0 x hx).sorted
      have : adel nmNew (aput bytesBefore nmNew f x.names) = x.names := by
        refine asorted_ext bbLt ((hs.aput bbLt _ _).adel _) hs fun m => ?_
        rw [aget_adel]
        by_cases hm : m = nmNew
        · rw [if_pos hm, hm, hn]
        · rw [if_neg hm, aget_aput, if_neg hm]
      rw [this]
    · rw [if_neg hk0]
      unfold ids1 setName
      rw [aget_amod, if_neg hk0, aget_aput, if_neg hkf]
theorem ids_other (hO : Oky T) (h : T.length < 64) {f : Nat} (hf : freeM T = f) {kind : Int} (hk : kind = 1 ∨ kind = 2) : (makeM T [nmOther] kind).1 = ((f : Int), 0) := by
  have he : makeE T [nmOther] kind = 0 := by
    rw [mk_one hO (by decide) (by decide) hk]
    exact if_neg (by omega)
  unfold makeM
  rw [he, if_pos rfl, hf]
theorem ids_full (hO : Oky T) (h : 64 ≤ T.length) : makeM T [nmNew] 2 = ((0, 4), T) := by
  have he : makeE T [nmNew] 2 = 4 := by
    rw [mk_one hO (by decide) (by decide) (.inr rfl)]
    exact if_pos h
  unfold makeM
  rw [he, if_neg (by simp)]
end
end Go.Proofs.YtbapdoicejakhaaGreat
