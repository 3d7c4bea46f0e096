/- The tree and the reference's, side by side. permafrostbook.Within. permafrostkeep.Names. permafrostbook.Same at texts. permafrostkeep.Cut. A drawn region taken by hand: the condition S may be made stronger on the way. -/
import Derived.Test.YtbapdoicejakhaaGreatM39
import Derived.Test.YtbapdoicejakhaaGreatM40
import Derived.Test.YtbapdoicejakhaaGreatM25
import Derived.Test.YtbapdoicejakhaaGreatM01
import Derived.Test.YtbapdoicejakhaaGreatM09
import Derived.Deep.CutBlock
import Derived.Deep.DeepCutAuto
import Derived.Test.YtbapdoicejakhaaGreatM26
import Derived.BigQuiet
import Derived.Deep.QuietTactic
import Derived.Deep.RegionHeld3
namespace Go.Proofs.YtbapdoicejakhaaGreat
open Go.ChangeShapes Go.WideShapes Go.ChangeAt Go.RowKit
set_option linter.unusedVariables false
set_option linter.unusedSimpArgs false

/-- No name is long. -/
def Short (T : TrM) : Prop := ∀ q ∈ T, ∀ e ∈ q.2.names, e.1.length ≤ 1
theorem Short.amod {T : TrM} (h : Short T) (k : Int) {f : ItM → ItM} (hf : ∀ x : ItM, (∀ e ∈ x.names, e.1.length ≤ 1) → ∀ e ∈ (f x).names, e.1.length ≤ 1) : Short (Go.Proofs.YtbapdoicejakhaaGreat.amod k f T) := fun q hq => by
  rcases amod_mem hq with h1 | ⟨p, hp, _, rfl⟩
  · exact h q h1
  · exact hf p.2 (h p hp)
theorem Short.same {T : TrM} (h : Short T) (k : Int) {f : ItM → ItM} (hf : ∀ x, (f x).names = x.names) : Short (Go.Proofs.YtbapdoicejakhaaGreat.amod k f T) := h.amod k fun x hx => by rw [hf]; exact hx
theorem Short.set {T : TrM} (h : Short T) (d : Int) {n : Nm} (hn : n.length ≤ 1) (id : Int) : Short (setName T d n id) := h.amod d fun x hx => names_set (P := fun e => e.1.length ≤ 1) hx hn
theorem Short.cut {T : TrM} (h : Short T) (d : Int) (n : Nm) : Short (cutName T d n) := h.amod d fun x hx e he => hx e (List.mem_filter.1 he).1
theorem Short.del {T : TrM} (h : Short T) (k : Int) : Short (adel k T) := fun q hq => h q (List.mem_filter.1 hq).1
theorem Short.add {T : TrM} (h : Short T) (f kind : Int) : Short (aput ilt f (freshM kind) T) := fun q hq => by
  rcases (mem_ains ilt).1 hq with rfl | h1
  · intro e he; cases he
  · exact h q (List.mem_filter.1 h1).1
theorem Short.settle {T : TrM} (h : Short T) (k : Int) : Short (settleM T k) := by
  unfold settleM
  cases aget k T with
  | none => exact h
  | some x =>
    simp only
    split
    · exact h.del k
    · exact h
theorem place_short (T : TrM) {p : List Nm} (hp : ∀ n ∈ p, n.length ≤ 1) : (placeM T p).2.1.length ≤ 1 := by
  have hl : (p.getLastD []).length ≤ 1 := by
    rw [List.getLastD_eq_getLast?]
    cases h : p.getLast? with
    | none => simp
    | some n => exact hp n (List.mem_of_getLast? h)
  unfold placeM
  split
  · simp
  · split
    · simp
    · split
      · exact hl
      · simp
def Oky (T : TrM) : Prop := Okay T ∧ Short T
theorem Oky.makeM {T : TrM} (h : Oky T) {p : List Nm} (hp : ∀ n ∈ p, n.length ≤ 1) (kind : Int) : Oky (Go.Proofs.YtbapdoicejakhaaGreat.makeM T p kind).2 := by
  refine ⟨h.1.makeM _ _, ?_⟩
  unfold Go.Proofs.YtbapdoicejakhaaGreat.makeM
  split
  · exact (h.2.add _ _).set _ (place_short T hp) _
  · exact h.2
theorem Oky.linkM {T : TrM} (h : Oky T) (p : List Nm) {q : List Nm} (hq : ∀ n ∈ q, n.length ≤ 1) : Oky (Go.Proofs.YtbapdoicejakhaaGreat.linkM T p q).2 := by
  refine ⟨h.1.linkM _ _, ?_⟩
  unfold Go.Proofs.YtbapdoicejakhaaGreat.linkM
  simp only
  split
  · exact (h.2.set _ (place_short T hq) _).same _ (fun _ => by exact rfl)
  · exact h.2
theorem Oky.unlinkM {T : TrM} (h : Oky T) (p : List Nm) : Oky (Go.Proofs.YtbapdoicejakhaaGreat.unlinkM T p).2 := by
  refine ⟨h.1.unlinkM _, ?_⟩
  unfold Go.Proofs.YtbapdoicejakhaaGreat.unlinkM
  simp only
  split
  · exact (((h.2.cut _ _).same _ (f := fun x => { x with links := x.links - 1 }) (fun _ => by exact rfl))).settle _
  · exact h.2
theorem Oky.rmdirM {T : TrM} (h : Oky T) (p : List Nm) : Oky (Go.Proofs.YtbapdoicejakhaaGreat.rmdirM T p).2 := by
  refine ⟨h.1.rmdirM _, ?_⟩
  unfold Go.Proofs.YtbapdoicejakhaaGreat.rmdirM
  simp only
  split
  · exact (h.2.cut _ _).del _
  · exact h.2
theorem Oky.renameM {T : TrM} (h : Oky T) (p : List Nm) {q : List Nm} (hq : ∀ n ∈ q, n.length ≤ 1) : Oky (Go.Proofs.YtbapdoicejakhaaGreat.renameM T p q).2 := by
  refine ⟨h.1.renameM _ _, ?_⟩
  unfold Go.Proofs.YtbapdoicejakhaaGreat.renameM
  simp only
  split
  · exact (h.2.cut _ _).set _ (place_short T hq) _
  · exact h.2
theorem Oky.appendM {T : TrM} (h : Oky T) (id : Int) (b : List UInt8) : Oky (Go.Proofs.YtbapdoicejakhaaGreat.appendM T id b).2 := by
  refine ⟨h.1.appendM _ _, ?_⟩
  unfold Go.Proofs.YtbapdoicejakhaaGreat.appendM
  simp only
  split
  · exact h.2.same _ (fun _ => by exact rfl)
  · exact h.2
theorem Oky.sealM {T : TrM} (h : Oky T) (id til : Int) (h0 : 0 ≤ til) : Oky (Go.Proofs.YtbapdoicejakhaaGreat.sealM T id til).2 := by
  refine ⟨h.1.sealM _ _ h0, ?_⟩
  unfold Go.Proofs.YtbapdoicejakhaaGreat.sealM
  simp only
  split
  · exact (h.2.same _ (f := fun x => { x with closed := true, til := til }) (fun _ => by exact rfl)).settle _
  · exact h.2
theorem Oky.keepM {T : TrM} (h : Oky T) (id til : Int) (h0 : 0 ≤ til) : Oky (Go.Proofs.YtbapdoicejakhaaGreat.keepM T id til).2 := by
  refine ⟨h.1.keepM _ _ h0, ?_⟩
  unfold Go.Proofs.YtbapdoicejakhaaGreat.keepM
  simp only
  split
  · exact h.2.same _ (fun _ => by exact rfl)
  · exact h.2
theorem Oky.dropM {T : TrM} (h : Oky T) (id : Int) : Oky (Go.Proofs.YtbapdoicejakhaaGreat.dropM T id).2 := by
  refine ⟨h.1.dropM _, ?_⟩
  unfold Go.Proofs.YtbapdoicejakhaaGreat.dropM
  simp only
  split
  · rw [dropOk_eq]
    refine Short.del (fun q hq e he => ?_) _
    unfold stripM at hq
    obtain ⟨p, hp, rfl⟩ := List.mem_map.1 hq
    exact h.2 p hp e (List.mem_filter.1 he).1
  · exact h.2
theorem Oky.new : Oky newM := ⟨Okay.new, fun q hq e he => by
  unfold newM at hq
  simp only [List.mem_singleton] at hq
  subst hq
  cases he⟩
/-- Both hold the same tree; what Q names is neither's. -/
structure BothP (W : World) (Q P F : Nat → Prop) (w : World) (t r : Nat) (T : TrM) : Prop where
  tree : TreeIn W P w t T
  ref : RefAt F w r T
  inP : ∀ x, F x → P x ∧ W.heap.size ≤ x
  inQ : ∀ x, Q x → P x ∧ ¬ F x
  okay : Oky T
def BothT (W : World) (Q : Nat → Prop) (w : World) (t r : Nat) (T : TrM) : Prop := ∃ P F, BothP W Q P F w t r T
section
variable {W w w1 w2 : World} {Q P F : Nat → Prop} {t r : Nat} {T T' : TrM}
theorem BothP.below (h : BothP W Q P F w t r T) (hb : Below w.heap.size w w1) : BothP W Q P F w1 t r T := ⟨h.tree.grow hb, h.ref.below hb (Nat.le_refl _), h.inP, h.inQ, h.okay⟩
/-- What is new is shielded from now on. -/
theorem BothP.shield (h : BothP W Q P F w t r T) (hb : Below w.heap.size w w1) : BothP W (fun x => Q x ∨ (w.heap.size ≤ x ∧ x < w1.heap.size)) (fun x => P x ∨ (w.heap.size ≤ x ∧ x < w1.heap.size)) F w1 t r T := by
  refine ⟨h.tree.shield hb, h.ref.below hb (Nat.le_refl _), fun x hx => ⟨.inl (h.inP x hx).1, (h.inP x hx).2⟩, fun x hx => ?_, h.okay⟩
  rcases hx with hx | hx
  · exact ⟨.inl (h.inQ x hx).1, (h.inQ x hx).2⟩
  · exact ⟨.inr hx, fun hf => by have := h.ref.low x hf; omega⟩
theorem BothP.mono {Q' : Nat → Prop} (h : BothP W Q P F w t r T) (hq : ∀ x, Q' x → Q x) : BothP W Q' P F w t r T := ⟨h.tree, h.ref, h.inP, fun x hx => h.inQ x (hq x hx), h.okay⟩
/-- Behind the tree's call the reference stands as it stood. -/
theorem BothP.mid {v : Value} {e : Ending} (h : BothP W Q P F w t r T) (h1 : InTurned W P w t T' v e w1) : RefAt F w1 r T :=
  h.ref.keeps h1.2.2 fun b hb hw => hw.2 (h.inP b hb).1
theorem TreeIn.over (h : TreeIn W P w1 t T') (hK : Keeps (fun x => x = r) w1 w2) (hr : P r) (hW : W.heap.size ≤ r) : TreeIn W (fun x => P x ∨ (w1.heap.size ≤ x ∧ x < w2.heap.size)) w2 t T' := by
  obtain ⟨g, D, mb, ib, nb, hA, hF⟩ := h.at_
  have hs := h.below.size
  refine ⟨⟨g, D, mb, ib, nb, hA.keeps hK fun b hb he => (hF b hb).2 (he ▸ hr), fun b hb => ⟨(hF b hb).1, fun hp => ?_⟩⟩, h.ok, h.below.trans (hK.to_below hs fun x hx he => by omega), fun x hx => ?_⟩
  · rcases hp with hp | hp
    · exact (hF b hb).2 hp
    · rcases hb with hb | hb
      · have := hA.low b hb; omega
      · have := hA.dlow b hb; omega
  · rcases hx with hx | hx
    · have := h.low x hx; have := hK.size; omega
    · exact hx.2
/-- Both are turned alike. -/
theorem BothP.step {v1 v2 : Value} {e1 e2 : Ending} (h : BothP W Q P F w t r T) (h1 : InTurned W P w t T' v1 e1 w1) (h2 : RTurn F w1 r T' v2 e2 w2) (hO : Oky T') : BothT W Q w2 t r T' ∧ (∀ b, Q b → w2.heap[b]? = w.heap[b]?) ∧ w.heap.size ≤ w2.heap.size ∧ Below W.heap.size W w2 := by
  have hr := h.inP r h.ref.own
  have h3 := h1.2.1.over h2.2.1 hr.1 hr.2
  have hlow := h1.2.1.low
  refine ⟨⟨_, _, h3, h2.2.2, fun x hx => ?_, fun x hx => ⟨.inl (h.inQ x hx).1, fun hf => ?_⟩, hO⟩, fun b hb => ?_, Nat.le_trans h1.2.2.size h2.2.1.size, h3.below⟩
  · rcases hx with hx | hx
    · exact ⟨.inl (h.inP x hx).1, (h.inP x hx).2⟩
    · have := h1.2.1.below.size
      exact ⟨.inr hx, by omega⟩
  · rcases hf with hf | hf
    · exact (h.inQ x hx).2 hf
    · have := hlow x (h.inQ x hx).1; omega
  · have hb1 := h.inQ b hb
    have hbw := h.tree.low b hb1.1
    rw [h2.2.1.block b (hlow b hb1.1) (fun he => hb1.2 (he ▸ h.ref.own))]
    exact h1.2.2.block b hbw (fun hw => hw.2 hb1.1)
/-- Nothing is turned, memory is made. -/
theorem BothP.rest (h : BothP W Q P F w t r T) (hb : Below w.heap.size w w1) : BothT W Q w1 t r T ∧ (∀ b, Q b → w1.heap[b]? = w.heap[b]?) ∧ w.heap.size ≤ w1.heap.size ∧ Below W.heap.size W w1 :=
  ⟨⟨_, _, h.below hb⟩, fun b hbq => hb.block b (h.tree.low b (h.inQ b hbq).1), hb.size, h.tree.below.trans (hb.mono h.tree.below.size)⟩
end
end Go.Proofs.YtbapdoicejakhaaGreat
namespace Go.Proofs.YtbapdoicejakhaaGreat
open Go.ChangeShapes Go.WideShapes Go.ChangeAt Go.RowKit
set_option linter.unusedVariables false

def withinI (n lo hi : Int) : Int := lo + n % (hi - lo + 1)
theorem withinI_bd (n lo hi : Int) (h : lo ≤ hi) : lo ≤ withinI n lo hi ∧ withinI n lo hi ≤ hi := by
  unfold withinI
  have h1 := Int.emod_nonneg n (show hi - lo + 1 ≠ 0 by omega)
  have h2 := Int.emod_lt_of_pos n (show 0 < hi - lo + 1 by omega)
  omega
theorem i64_of_wf {n : Int} (h : (Lit.int .i64 n).wf = true) : -9223372036854775808 ≤ n ∧ n ≤ 9223372036854775807 := by
  simp [Lit.wf, IntKind.min, IntKind.max, IntKind.signed, IntKind.bits] at h
  omega
theorem within_any (n lo hi : Int) (w : World) (hn : (Lit.int .i64 n).wf = true) (h1 : 0 ≤ lo) (h2 : lo ≤ hi) (h3 : hi ≤ 1099511627776) :
    Calls Tryz.prog 19 #[.int .i64 n, .int .i64 lo, .int .i64 hi] w fun e w' => e = .returned (.int .i64 (withinI n lo hi)) ∧ w = w' := by
  obtain ⟨hw1, hw2⟩ := i64_of_wf hn
  clear hn
  have t1 := Int.tmod_lt_of_pos n (show 0 < hi - lo + 1 by omega)
  have t2 := Int.lt_tmod_of_pos n (show 0 < hi - lo + 1 by omega)
  have t3 := Int.emod_nonneg n (show hi - lo + 1 ≠ 0 by omega)
  have t4 := Int.emod_lt_of_pos n (show 0 < hi - lo + 1 by omega)
  by_cases hn : 0 ≤ n
  · have hx : ¬ n % (hi - lo + 1) < 0 := by omega
    go_enter Tryz.func19, Tryz.ntmps19
    go_wp2
    go_ret
    exact ⟨ret_int (by unfold withinI; rfl), rfl⟩
  · have hE : n % (hi - lo + 1) = if n.tmod (hi - lo + 1) < 0 then n.tmod (hi - lo + 1) + (hi - lo + 1) else n.tmod (hi - lo + 1) := by
      have h5 := Int.emod_add_mul_ediv n (hi - lo + 1)
      have h6 := Int.tmod_add_mul_tdiv n (hi - lo + 1)
      have h7 : (n.tmod (hi - lo + 1)) % (hi - lo + 1) = n % (hi - lo + 1) := by
        have h8 : n = n.tmod (hi - lo + 1) + (hi - lo + 1) * n.tdiv (hi - lo + 1) := by omega
        rw [← Int.add_mul_emod_self_left (n.tmod (hi - lo + 1)) (hi - lo + 1) (n.tdiv (hi - lo + 1)), ← h8]
      split
      · rw [← h7, ← Int.add_emod_right, Int.emod_eq_of_lt (by omega) (by omega)]
      · rw [← h7, Int.emod_eq_of_lt (by omega) (by omega)]
    have HE := Lib.hid hE
    clear hE
    by_cases ht : n.tmod (hi - lo + 1) < 0
    · go_enter Tryz.func19, Tryz.ntmps19
      go_wp2
      go_ret
      exact ⟨ret_int (by unfold withinI; rw [HE.out, if_pos ht]; omega), rfl⟩
    · go_enter Tryz.func19, Tryz.ntmps19
      go_wp2
      go_ret
      exact ⟨ret_int (by unfold withinI; rw [HE.out, if_neg (by omega)]), rfl⟩
end Go.Proofs.YtbapdoicejakhaaGreat
namespace Go.Proofs.YtbapdoicejakhaaGreat
open Go.ChangeShapes Go.WideShapes Go.ChangeAt Go.RowKit
set_option linter.unusedVariables false
set_option linter.unusedSimpArgs false

/-- The names that are drawn from. -/
def namesTab : List (List Nm) := [[[97]], [[98]], [[99]], [[97], [97]], [[97], [98]], [[98], [97]], [[98], [98], [97]], [], [[99], [97]], [[98], [98]], [[65]], [[97], []], [[46]]]
def allocAll (w : World) : List Obj → World
  | [] => w
  | o :: r => allocAll (w.alloc o) r
theorem allocAll_below : ∀ (os : List Obj) (w w0 : World), w0.heap.size ≤ w.heap.size → Below w0.heap.size w0 w → Below w0.heap.size w0 (allocAll w os)
  | [], w, w0, _, h => h
  | o :: r, w, w0, hs, h => allocAll_below r (w.alloc o) w0 (by simp; omega) (h.alloc hs o)
theorem allocAll_size : ∀ (os : List Obj) (w : World), (allocAll w os).heap.size = w.heap.size + os.length
  | [], w => rfl
  | o :: r, w => by
    show (allocAll (w.alloc o) r).heap.size = _
    rw [allocAll_size r, World.size_alloc, List.length_cons]
    omega
theorem allocAll_get : ∀ (os : List Obj) (w : World) (i : Nat) (o : Obj), os[i]? = some o → (allocAll w os).heap[w.heap.size + i]? = some o
  | [], w, i, o, h => by simp at h
  | x :: r, w, 0, o, h => by
    simp only [List.getElem?_cons_zero, Option.some.injEq] at h
    subst h
    have h1 := allocAll_below r (w.alloc x) (w.alloc x) (Nat.le_refl _) (Below.refl _ _)
    exact (h1.block w.heap.size (by simp)).trans (MapKept.heap_alloc w x).1
  | x :: r, w, i + 1, o, h => by
    have := allocAll_get r (w.alloc x) i o (by simpa using h)
    rw [World.size_alloc] at this
    rw [show w.heap.size + (i + 1) = w.heap.size + 1 + i by omega]
    exact this
/-- A slice of names, in new memory. -/
def NewNames (w : World) (ls : List Nm) (e : Ending) (w' : World) : Prop :=
  ∃ a c, e = .returned (.slice a ls.length c) ∧ ls.length ≤ c ∧ StrsAt (fun x => w.heap.size ≤ x ∧ x < w'.heap.size) w' a ls.length (ls.map strOf) ∧ Below w.heap.size w w'
def NamesMade (w : World) (v : Value) (wx : World) : Prop :=
  ∃ g, v = .slice (some ⟨g, 0, none⟩) 13 13 ∧ g < wx.heap.size ∧ Below w.heap.size w wx ∧ ∀ (j : Nat) (ls : List Nm), namesTab[j]? = some ls → ∃ a c, wx.cell? ⟨g, j, none⟩ = some (.slice a ls.length c) ∧ ls.length ≤ c ∧ StrsAt (fun x => w.heap.size ≤ x ∧ x < wx.heap.size) wx a ls.length (ls.map strOf)
def namesCells (ls : List Nm) : Obj := .cells (ls.map fun n => Value.string (strOf n)).toArray 9
theorem names_at {w0 w : World} {g : Nat} {ls : List Nm} (h : w.heap[g]? = some (namesCells ls)) (hg : w0.heap.size ≤ g) (hs : ls.length ≤ 3) (hl : ∀ n ∈ ls, n.length ≤ 3) : StrsAt (fun x => w0.heap.size ≤ x ∧ x < w.heap.size) w (some ⟨g, 0, none⟩) ls.length (ls.map strOf) := by
  have hgw := (Array.getElem?_eq_some_iff.1 h).1
  refine ⟨⟨by simp, by unfold maxLen; omega, fun _ => ⟨g, 0, rfl, ⟨hg, hgw⟩, hgw, fun i hi => ?_⟩⟩, fun s hs' => ?_⟩
  · simp only [World.cell?, h, namesCells]
    simp
    rfl
  · obtain ⟨n, hn, rfl⟩ := List.mem_map.1 hs'
    rw [strOf_size]
    have := hl n hn
    unfold maxLen; omega
/-- The outer row. -/
def namesRow (B : Nat) : List Value := [.slice (some ⟨B, 0, none⟩) 1 1, .slice (some ⟨B + 1, 0, none⟩) 1 1, .slice (some ⟨B + 2, 0, none⟩) 1 1, .slice (some ⟨B + 3, 0, none⟩) 2 2, .slice (some ⟨B + 4, 0, none⟩) 2 2, .slice (some ⟨B + 5, 0, none⟩) 2 2, .slice (some ⟨B + 6, 0, none⟩) 3 3, .slice none 0 0, .slice (some ⟨B + 7, 0, none⟩) 2 2, .slice (some ⟨B + 8, 0, none⟩) 2 2, .slice (some ⟨B + 9, 0, none⟩) 1 1, .slice (some ⟨B + 10, 0, none⟩) 2 2, .slice (some ⟨B + 11, 0, none⟩) 1 1]
def namesObjs (B : Nat) : List Obj := [namesCells [[97]], namesCells [[98]], namesCells [[99]], namesCells [[97], [97]], namesCells [[97], [98]], namesCells [[98], [97]], namesCells [[98], [98], [97]], namesCells [[99], [97]], namesCells [[98], [98]], namesCells [[65]], namesCells [[97], []], namesCells [[46]], .cells (namesRow B).toArray 36]
theorem names_made (w : World) : NamesMade w (.slice (some ⟨w.heap.size + 12, 0, none⟩) 13 13) (allocAll w (namesObjs w.heap.size)) := by
  have hsz := allocAll_size (namesObjs w.heap.size) w
  have hl : (namesObjs w.heap.size).length = 13 := rfl
  rw [hl] at hsz
  refine ⟨w.heap.size + 12, rfl, by omega, allocAll_below _ w w (Nat.le_refl _) (Below.refl _ _), fun j ls hj => ?_⟩
  have hcell : ∀ v, (namesRow w.heap.size)[j]? = some v → (allocAll w (namesObjs w.heap.size)).cell? ⟨w.heap.size + 12, j, none⟩ = some v := fun v hv => by
    have := allocAll_get (namesObjs w.heap.size) w 12 _ rfl
    simp only [World.cell?, this]
    simpa using hv
  have key : ∀ (i n : Nat) (ls' : List Nm), (namesObjs w.heap.size)[i]? = some (namesCells ls') → (namesRow w.heap.size)[j]? = some (.slice (some ⟨w.heap.size + i, 0, none⟩) n n) → ls'.length = n → ls'.length ≤ 3 → (∀ x ∈ ls', x.length ≤ 3) → ls' = ls →
      ∃ a c, (allocAll w (namesObjs w.heap.size)).cell? ⟨w.heap.size + 12, j, none⟩ = some (.slice a ls.length c) ∧ ls.length ≤ c ∧ StrsAt (fun x => w.heap.size ≤ x ∧ x < (allocAll w (namesObjs w.heap.size)).heap.size) (allocAll w (namesObjs w.heap.size)) a ls.length (ls.map strOf) := fun i n ls' h1 h2 h3 h4 h5 h6 => by
    subst h6
    exact ⟨_, n, by rw [h3]; exact hcell _ h2, by omega, names_at (allocAll_get _ w i _ h1) (by omega) h4 h5⟩
  match j, hj with
  | 0, hj => exact key 0 1 [[97]] rfl rfl rfl (by decide) (by decide) (Option.some.inj hj)
  | 1, hj => exact key 1 1 [[98]] rfl rfl rfl (by decide) (by decide) (Option.some.inj hj)
  | 2, hj => exact key 2 1 [[99]] rfl rfl rfl (by decide) (by decide) (Option.some.inj hj)
  | 3, hj => exact key 3 2 [[97], [97]] rfl rfl rfl (by decide) (by decide) (Option.some.inj hj)
  | 4, hj => exact key 4 2 [[97], [98]] rfl rfl rfl (by decide) (by decide) (Option.some.inj hj)
  | 5, hj => exact key 5 2 [[98], [97]] rfl rfl rfl (by decide) (by decide) (Option.some.inj hj)
  | 6, hj => exact key 6 3 [[98], [98], [97]] rfl rfl rfl (by decide) (by decide) (Option.some.inj hj)
  | 7, hj =>
    have : ([] : List Nm) = ls := Option.some.inj hj
    subst this
    exact ⟨none, 0, hcell _ rfl, Nat.le_refl _, ⟨RowAt.nil _ _ _, by simp⟩⟩
  | 8, hj => exact key 7 2 [[99], [97]] rfl rfl rfl (by decide) (by decide) (Option.some.inj hj)
  | 9, hj => exact key 8 2 [[98], [98]] rfl rfl rfl (by decide) (by decide) (Option.some.inj hj)
  | 10, hj => exact key 9 1 [[65]] rfl rfl rfl (by decide) (by decide) (Option.some.inj hj)
  | 11, hj => exact key 10 2 [[97], []] rfl rfl rfl (by decide) (by decide) (Option.some.inj hj)
  | 12, hj => exact key 11 1 [[46]] rfl rfl rfl (by decide) (by decide) (Option.some.inj hj)
  | j + 13, hj => simp [namesTab] at hj
/-- Which one. -/
def namesI (n : Int) : Nat := (withinI n 0 1048576 % 13).toNat
def namesL (n : Int) : List Nm := namesTab.getD (namesI n) []
theorem namesL_small (n : Int) : (namesL n).length ≤ 3 := by
  unfold namesL
  rw [List.getD_eq_getElem?_getD]
  cases h : namesTab[namesI n]? with
  | none => simp
  | some ls =>
    have := List.mem_of_getElem? h
    revert ls
    intro ls _ hm
    have : ∀ l ∈ namesTab, l.length ≤ 3 := by decide
    exact this ls hm
set_option maxHeartbeats 4000000 in
theorem names_any (n : Int) (hn : (Lit.int .i64 n).wf = true) (w : World) : Calls Tryz.prog 46 #[.int .i64 n] w (NewNames w (namesL n)) := by
  have hw := withinI_bd n 0 1048576 (by omega)
  have HW := Lib.hid (fun w1 => within_any n 0 1048576 w1 hn (by omega) (by omega) (by omega))
  have hI : (namesI n : Int) = withinI n 0 1048576 % 13 := by unfold namesI; omega
  have hI2 : namesI n < 13 := by unfold namesI; omega
  obtain ⟨ls, hls⟩ : ∃ ls, namesTab[namesI n]? = some ls := ⟨_, List.getElem?_eq_getElem (show namesI n < namesTab.length by simpa [namesTab] using hI2)⟩
  have hL : namesL n = ls := by unfold namesL; rw [List.getD_eq_getElem?_getD, hls]; rfl
  rw [hL]
  generalize withinI n 0 1048576 = v at *
  generalize namesI n = j at *
  have HLS := Lib.hid hls
  have e1 : v % 13 = (j : Int) := hI.symm
  have j0 : (0 : Int) ≤ j := by omega
  have j1 : (j : Int) < 13 := by omega
  clear hls hL hI hn
  go_enter Tryz.func46, Tryz.ntmps46
  go_upto_region 1 with (fail)
  go_cut [3] from 4 to 16 (fun v wx => NamesMade w v wx)
  case first =>
    go_wp2_with fail
    go_meet
    exact names_made w
  case rest =>
    obtain ⟨g, rfl, hg, hB, hc⟩ := hcut
    obtain ⟨w1, rfl⟩ : ∃ w1 : World, w1 = wc := ⟨_, rfl⟩
    obtain ⟨a, c, hc1, hc2, hc3⟩ := hc j ls HLS.out
    have HS := Lib.hid hc3
    have HB := Lib.hid hB
    clear hc hc3 hB
    go_wp2_with fail
    (with_reducible refine (HW.out _).mono ?_)
    rintro e w2 ⟨rfl, rfl⟩
    go_wp2_with fail
    go_ret
    exact ⟨a, c, rfl, hc2, HS.out, HB.out⟩
end Go.Proofs.YtbapdoicejakhaaGreat
namespace Go.Proofs.YtbapdoicejakhaaGreat
open Go.ChangeShapes Go.WideShapes Go.ChangeAt Go.RowKit
set_option linter.unusedVariables false

theorem same_any {S S' : Nat → Prop} (a a' : Option Addr) (len cap len' cap' : Nat) (ss ss' : List ByteArray) (w : World) (h : StrsAt S w a len ss) (h' : StrsAt S' w a' len' ss') :
    Calls Tryz.prog 54 #[.slice a len cap, .slice a' len' cap'] w fun e w' => e = .returned (.bool (decide (ss = ss'))) ∧ Below w.heap.size w w' := by
  have hl := h.length
  have hl' := h'.length
  have hm := h.row.small
  have hm' := h'.row.small
  unfold maxLen at hm hm'
  by_cases hne : len = len'
  · subst hne
    have HL := Lib.hid hl
    have HL' := Lib.hid hl'
    clear hl hl'
    go_enter Tryz.func54, Tryz.ntmps54
    go_wp2
    go_loopw [5] (fun i wr => ∃ k : Nat, k ≤ len ∧ i = .int .i64 k ∧ ss.take k = ss'.take k ∧ Below w.heap.size w wr) (fun i _ => len - (intOf i).toNat)
    case atStart => exact ⟨0, by omega, rfl, rfl, Below.refl _ _⟩
    case round =>
      obtain ⟨k, hk, rfl, ht, hb⟩ := hrel
      have HT := Lib.hid ht
      clear ht
      by_cases hlt : k < len
      · obtain ⟨b, off, x, rfl, _, _, hx, _, hc⟩ := (h.below hb (Nat.le_refl _)).cell k hlt
        obtain ⟨b', off', y, rfl, _, _, hy, _, hc'⟩ := (h'.below hb (Nat.le_refl _)).cell k hlt
        have HX := Lib.hid hx
        have HY := Lib.hid hy
        clear hx hy h h'
        have hk0 : (0 : Int) ≤ (k : Int) := by omega
        have hk1 : (k : Int) < (len : Int) := by omega
        by_cases hxy : x = y
        · subst hxy
          go_wp2
          go_quiet (fail)
          go_wp2
          go_roundw
          case rel => exact ⟨k + 1, by omega, by go_num, take_succ_eq HT.out HX.out HY.out, hb.trans ⟨rfl, rfl, rfl, Nat.le_refl _, fun _ _ => rfl⟩⟩
          case measure => simp [intOf]; omega
        · have hxl := toList_ne hxy
          have HN := Lib.hid hxy
          clear hxy
          go_wp2
          go_quiet (fail)
          go_wp2
          go_ret
          exact ⟨ret_bool (by simp [getElem_ne_of HX.out HY.out HN.out]), hb.trans ⟨rfl, rfl, rfl, Nat.le_refl _, fun _ _ => rfl⟩⟩
      · go_wp2
        go_ret
        refine ⟨ret_bool ?_, hb⟩
        have := HT.out
        rw [List.take_of_length_le (by have := HL.out; omega), List.take_of_length_le (by have := HL'.out; omega)] at this
        simp [this]
  · have hne' : ss ≠ ss' := fun e => hne (by rw [← hl, ← hl', e])
    have HN := Lib.hid hne'
    have hb0 : ((len : Int) != (len' : Int)) = true := by simp; omega
    clear hl hl' hne hne'
    go_enter Tryz.func54, Tryz.ntmps54
    go_wp2
    go_ret
    exact ⟨ret_bool (by simp [HN.out]), Below.refl _ _⟩
end Go.Proofs.YtbapdoicejakhaaGreat
namespace Go.Proofs.YtbapdoicejakhaaGreat
open Go.ChangeShapes Go.WideShapes Go.ChangeAt Go.RowKit
set_option linter.unusedVariables false

theorem cut_any (a : Option Addr) (len cap n : Nat) (hl : len ≤ cap) (hn : n ≤ 1048576) (hm : len ≤ maxLen) (w : World) :
    Calls Tryz.prog 45 #[.slice a len cap, .int .i64 n] w fun e w' => e = .returned (.slice a (min len n) cap) ∧ w = w' := by
  unfold maxLen at hm
  by_cases h : n < len
  · have e1 : n ≤ cap := by omega
    go_enter Tryz.func45, Tryz.ntmps45
    go_wp2
    go_ret
    rw [show min len n = n by omega]
    exact ⟨rfl, rfl⟩
  · go_enter Tryz.func45, Tryz.ntmps45
    go_wp2
    go_ret
    rw [show min len n = len by omega]
    exact ⟨rfl, rfl⟩

end Go.Proofs.YtbapdoicejakhaaGreat
namespace Go.Proofs.YtbapdoicejakhaaGreat
theorem wpAnyH_mono {P : Program} {md : Region.Mode} {ops : Array Oper} {Q : Exit → Act → World → Prop} {S S' : World → Prop} (h : ∀ w, S' w → S w) :
    ∀ (fuel : Nat) (listed : Array Bool) (a : Act) (w : World), wpAnyH P md ops Q S' fuel listed a w → wpAnyH P md ops Q S fuel listed a w
  | 0, _, _, _, hw => hw
  | fuel + 1, _, _, _, hw => ⟨hw.1, fun i hi => wpOp_mono (fun _ _ h' => ⟨h _ h'.1, wpAnyH_mono h fuel _ _ _ h'.2⟩) (hw.2 i hi)⟩
end Go.Proofs.YtbapdoicejakhaaGreat
