/- slices.SortFunc over paths: the row holds them in another order. slices.SortFunc of no paths. -/
import Derived.Test.YtpgklnhkfgbpgaaGreatDoorM35
import Derived.Test.YtpgklnhkfgbpgaaGreatDoorM49
namespace Go.Proofs.YtpgklnhkfgbpgaaGreatDoor
open Go.ChangeShapes Go.WideShapes Go.ChangeAt Go.RowKit
set_option linter.unusedVariables false
set_option linter.unusedSimpArgs false

theorem cb_cons (a b : UInt8) (l1 l2 : List UInt8) : Lib.compareBytes (a :: l1) (b :: l2) = if a.toNat < b.toNat then -1 else if b.toNat < a.toNat then 1 else Lib.compareBytes l1 l2 := by
  simp only [Lib.compareBytes, UInt8.lt_iff_toNat_lt]
theorem cb_swap : ∀ a b : List UInt8, Lib.compareBytes b a = - Lib.compareBytes a b
  | [], [] => rfl
  | [], _ :: _ => rfl
  | _ :: _, [] => rfl
  | x :: a, y :: b => by
    have ih := cb_swap a b
    rw [cb_cons, cb_cons]
    by_cases h1 : x.toNat < y.toNat
    · rw [if_neg (by omega), if_pos h1, if_pos h1]; decide
    · rw [if_neg h1]
      by_cases h2 : y.toNat < x.toNat
      · rw [if_pos h2, if_neg h1, if_pos h2]
      · rw [if_neg h2, if_neg h2, if_neg h1]; exact ih
theorem cb_le_trans : ∀ a b c : List UInt8, Lib.compareBytes a b ≤ 0 → Lib.compareBytes b c ≤ 0 → Lib.compareBytes a c ≤ 0
  | [], _, [], _, _ => by simp [Lib.compareBytes]
  | [], _, _ :: _, _, _ => by simp [Lib.compareBytes]
  | _ :: _, [], _, h, _ => by simp [Lib.compareBytes] at h
  | _ :: _, _ :: _, [], _, h => by simp [Lib.compareBytes] at h
  | x :: a, y :: b, z :: c, h1, h2 => by
    have ih := cb_le_trans a b c
    rw [cb_cons] at h1 h2 ⊢
    by_cases e1 : x.toNat < z.toNat
    · rw [if_pos e1]; decide
    · rw [if_neg e1]
      by_cases f1 : x.toNat < y.toNat
      · rw [if_neg (by omega : ¬ y.toNat < z.toNat), if_pos (by omega)] at h2
        exact absurd h2 (by decide)
      · rw [if_neg f1] at h1
        by_cases f2 : y.toNat < x.toNat
        · rw [if_pos f2] at h1
          exact absurd h1 (by decide)
        · rw [if_neg f2] at h1
          by_cases g1 : z.toNat < x.toNat
          · rw [if_neg (by omega), if_pos (by omega)] at h2
            exact absurd h2 (by decide)
          · rw [if_neg (by omega), if_neg (by omega)] at h2
            rw [if_neg g1]
            exact ih h1 h2
theorem cb_lt_trans : ∀ a b c : List UInt8, Lib.compareBytes a b < 0 → Lib.compareBytes b c < 0 → Lib.compareBytes a c < 0
  | [], [], _, h, _ => by simp [Lib.compareBytes] at h
  | [], _ :: _, [], _, h => by simp [Lib.compareBytes] at h
  | [], _ :: _, _ :: _, _, _ => by simp [Lib.compareBytes]
  | _ :: _, [], _, h, _ => by simp [Lib.compareBytes] at h
  | _ :: _, _ :: _, [], _, h => by simp [Lib.compareBytes] at h
  | x :: a, y :: b, z :: c, h1, h2 => by
    have ih := cb_lt_trans a b c
    rw [cb_cons] at h1 h2 ⊢
    by_cases e1 : x.toNat < z.toNat
    · rw [if_pos e1]; decide
    · rw [if_neg e1]
      by_cases f1 : x.toNat < y.toNat
      · rw [if_neg (by omega : ¬ y.toNat < z.toNat), if_pos (by omega)] at h2
        exact absurd h2 (by decide)
      · rw [if_neg f1] at h1
        by_cases f2 : y.toNat < x.toNat
        · rw [if_pos f2] at h1
          exact absurd h1 (by decide)
        · rw [if_neg f2] at h1
          by_cases g1 : z.toNat < x.toNat
          · rw [if_neg (by omega), if_pos (by omega)] at h2
            exact absurd h2 (by decide)
          · rw [if_neg (by omega), if_neg (by omega)] at h2
            rw [if_neg g1]
            exact ih h1 h2
theorem lt_cb {α : Type} (f : α → List UInt8) (x y : α) : ltOf (fun x y => Lib.compareBytes (f x) (f y)) x y = decide (Lib.compareBytes (f x) (f y) < 0) := rfl
theorem swo_cb {α : Type} (f : α → List UInt8) : Sort.SWO (ltOf fun x y => Lib.compareBytes (f x) (f y)) where
  irrefl x := by
    have := cb_swap (f x) (f x)
    rw [lt_cb, decide_eq_false_iff_not]
    omega
  trans x y z h1 h2 := by
    rw [lt_cb, decide_eq_true_eq] at *
    exact cb_lt_trans _ _ _ h1 h2
  ntrans x y z h1 h2 := by
    rw [lt_cb, decide_eq_false_iff_not] at *
    have e1 := cb_swap (f x) (f y)
    have e2 := cb_swap (f y) (f z)
    have e3 := cb_swap (f x) (f z)
    have := cb_le_trans (f z) (f y) (f x) (by omega) (by omega)
    omega
theorem world_grown {w w' : World} (hb : Below w.heap.size w w') (hd : w.drawn ≤ w'.drawn) : ∃ q os, w' = Sort.grow (w.drewN q) os := by
  refine ⟨w'.drawn - w.drawn, w'.heap.extract w.heap.size w'.heap.size, ?_⟩
  have hs := hb.size
  have hh : w'.heap = w.heap ++ w'.heap.extract w.heap.size w'.heap.size := by
    apply Array.ext_getElem?
    intro i
    rw [Array.getElem?_append]
    split
    · rename_i hi
      exact hb.block i hi
    · rename_i hi
      rw [Array.getElem?_extract]
      split
      · congr 1; omega
      · rename_i h2
        rw [Array.getElem?_eq_none]
        omega
  cases w' with
  | mk heap tape drawn os output =>
    obtain ⟨h1, h2, h3, _, _⟩ := hb
    simp only at h1 h2 h3 hh hd
    subst h1 h2 h3
    simp only [Sort.grow, World.drewN]
    rw [← hh]
    congr 1
    omega
theorem sort_old {α : Type} [Inhabited α] (enc : α → Value) (w : World) (blk off n : Nat) (d : Array α) (os : Array Obj) {b : Nat} (hb : b < w.heap.size) (hne : b ≠ blk) : (sortWorld enc w blk off n d os).heap[b]? = w.heap[b]? := by
  unfold sortWorld
  rw [Sort.heap_grow_old _ _ (by simpa using hb)]
  unfold Sort.putRow Sort.mapBlock
  simp only [Sort.heap_ahead]
  rw [Array.getElem?_modify]
  rw [if_neg (fun h => hne h.symm)]
theorem sort_size {α : Type} [Inhabited α] (enc : α → Value) (w : World) (blk off n : Nat) (d : Array α) (os : Array Obj) : w.heap.size ≤ (sortWorld enc w blk off n d os).heap.size := by
  unfold sortWorld
  rw [Sort.size_grow, Sort.size_putRow]
  simp
theorem sort_keeps {α : Type} [Inhabited α] (enc : α → Value) (w : World) (blk off n : Nat) (d : Array α) (os : Array Obj) : Keeps (fun b => b = blk) w (sortWorld enc w blk off n d os) :=
  ⟨rfl, rfl, rfl, sort_size enc w blk off n d os, fun b hb hne => sort_old enc w blk off n d os hb hne⟩
/-- Paths as values, each with what it is. -/
structure PathE (S : Nat → Prop) (w : World) where
  val : Value
  path : List Nm
  at_ : PathV S w val path
  small : Small path
theorem paths_list {S : Nat → Prop} {w : World} : ∀ (l : List (List Nm)) (vals : List Value), PathVs S w vals l → (∀ q ∈ l, Small q) → ∃ d : List (PathE S w), d.map (fun x => x.val) = vals ∧ d.map (fun x => x.path) = l
  | [], vals, h, _ => ⟨[], by rw [List.eq_nil_of_length_eq_zero h.1]; rfl, rfl⟩
  | q :: r, vals, h, hs => by
    match vals, h with
    | [], h => exact absurd h.1 (by simp)
    | v :: vs, h =>
      have h0 := h.2 0 q rfl
      obtain ⟨u, hu, hp⟩ := h0
      obtain rfl : v = u := by simpa using hu
      obtain ⟨d, h1, h2⟩ := paths_list r vs ⟨by have := h.1; simp only [List.length_cons] at this; omega, fun i p hp => h.2 (i + 1) p (by simpa using hp)⟩ (fun p hp => hs p (by simp [hp]))
      exact ⟨⟨v, q, hp, hs q (by simp)⟩ :: d, by simp [h1], by simp [h2]⟩
theorem small_nil : Small [] := ⟨by simp, fun n hn => by simp at hn⟩
theorem pathV_nil (S : Nat → Prop) (w : World) : PathV S w (.slice none 0 0) [] := ⟨none, 0, rfl, Nat.le_refl _, RowAt.nil _ _ _, fun s hs => by simp at hs⟩
/-- What the sort leaves. -/
def Sorted_ (S : Nat → Prop) (blk : Nat) (w : World) (n : Nat) (l : List (List Nm)) (e : Ending) (w' : World) : Prop :=
  e = .returned (.tuple #[]) ∧ ∃ vals' l', l'.Perm l ∧ PathVs (fun b => b < w.heap.size ∧ b ≠ blk ∧ S b) w' vals' l' ∧ RowAt (fun b => b = blk) w' (some ⟨blk, 0, none⟩) n vals' ∧ Keeps (fun b => b = blk) w w'
theorem sort_names {B : Nat} {S : Nat → Prop} (w : World) (blk n c : Nat) (vals : List Value) (l : List (List Nm)) (hn : n ≤ 1000) (hrow : w.ownsRow B 28 1 (.slice (some ⟨blk, 0, none⟩) n c) n vals) (hv : PathVs (fun b => b ≠ blk ∧ S b) w vals l) (hsm : ∀ q ∈ l, Small q) :
    Calls Tryz.prog 73 #[.slice (some ⟨blk, 0, none⟩) n c, .func (.func 74) #[] #[]] w (Sorted_ S blk w n l) := by
  obtain ⟨d, hd1, hd2⟩ := paths_list (S := fun b => b < w.heap.size ∧ b ≠ blk ∧ S b) l vals (hv.move (Nat.le_refl _) fun b hb hbw => ⟨⟨hbw, hb.1, hb.2⟩, rfl⟩) hsm
  haveI : Inhabited (PathE (fun b => b < w.heap.size ∧ b ≠ blk ∧ S b) w) := ⟨⟨.slice none 0 0, [], pathV_nil _ _, small_nil⟩⟩
  obtain ⟨hlen, hrow⟩ := hrow
  have hdn : d.length = n := by
    have := congrArg List.length hd1
    rw [List.length_map, hlen] at this
    omega
  rcases hrow with ⟨h0, _⟩ | ⟨g, cap, cur, h1, hg, hcur, h2, h3, h4, h5⟩
  · cases h0
  · simp only [Value.slice.injEq, Option.some.injEq, Addr.mk.injEq, and_true, true_and] at h1
    obtain ⟨rfl, rfl⟩ := h1
    have hbw : blk < w.heap.size := (Array.getElem?_eq_some_iff.1 hcur).1
    have hH : Sort.Holds (fun x : PathE (fun b => b < w.heap.size ∧ b ≠ blk ∧ S b) w => x.val) w blk 0 d.toArray := by
      intro j hj
      have hj' : j < d.length := by simpa using hj
      refine ⟨?_, ?_⟩
      · simp only [World.cell?, hcur, Nat.zero_add]
        have e1 : cur.toList[j]? = vals[j]? := by rw [← h5, List.getElem?_take, if_pos (by omega)]
        have e2 : vals[j]? = some ((d[j]'hj').val) := by rw [← hd1, List.getElem?_map, List.getElem?_eq_getElem hj']; rfl
        have e3 : (d.toArray[j]! : PathE (fun b => b < w.heap.size ∧ b ≠ blk ∧ S b) w) = d[j]'hj' := by rw [getElem!_pos _ j hj]; simp
        rw [e3]
        rw [Array.getElem?_toList] at e1
        simpa using e1.trans e2
      · simp only [World.frozen?, hcur]
        simp
    have hone : OneCell (fun x : PathE (fun b => b < w.heap.size ∧ b ≠ blk ∧ S b) w => x.val) := fun x => by
      obtain ⟨a, c, e, _⟩ := x.at_
      simp only [e]
      rfl
    have hcmp : CmpLays1 Tryz.prog 74 #[] (fun x : PathE (fun b => b < w.heap.size ∧ b ≠ blk ∧ S b) w => x.val) (fun x y => Lib.compareBytes (pathJoin x.path) (pathJoin y.path)) blk 0 d.toArray.size w := by
      intro m os dk hdk x y
      have hmv : ∀ z : PathE (fun b => b < w.heap.size ∧ b ≠ blk ∧ S b) w, PathV (fun _ => True) (sortWorld (fun x : PathE (fun b => b < w.heap.size ∧ b ≠ blk ∧ S b) w => x.val) w blk 0 m dk os) z.val z.path := fun z =>
        z.at_.move (sort_size _ w blk 0 m dk os) fun b hb hbw' => ⟨trivial, sort_old _ w blk 0 m dk os hbw' hb.2.1⟩
      refine (calls_drawn (nameCmp_any (hmv x) (hmv y) x.small y.small)).mono ?_
      rintro e w' ⟨⟨rfl, hb⟩, hdr⟩
      exact ⟨rfl, world_grown hb (hdr (by simp))⟩
    have hmain := Tryz.slices_SortFunc (fun x : PathE (fun b => b < w.heap.size ∧ b ≠ blk ∧ S b) w => x.val) hone (fun x y => Lib.compareBytes (pathJoin x.path) (pathJoin y.path)) (swo_cb _) 74 #[] blk 0 c d.toArray w (enters_of Tryz.func74 (by kernel_rfl) rfl) hcmp hH hbw (by simp; omega)
    have hsz : d.toArray.size = n := by simpa using hdn
    rw [hsz] at hmain
    refine hmain.mono ?_
    rintro e w' ⟨rfl, d', m, os, hp, hso, rfl⟩
    refine ⟨rfl, d'.toList.map (fun x => x.val), d'.toList.map (fun x => x.path), ?_, ?_, ?_, sort_keeps _ _ _ _ _ _ _⟩
    · obtain ⟨hp1, _, hp2⟩ := hp
      rw [← hd2]
      refine List.Perm.map _ ?_
      have e1 : d'.extract 0 n = d' := by rw [← hsz, ← hp1]; simp
      have e2 : d.toArray.extract 0 n = d.toArray := by rw [← hsz]; simp
      rw [e1, e2] at hp2
      simpa using hp2
    · refine ⟨by simp, fun i q hq => ?_⟩
      rw [List.getElem?_map] at hq
      cases hx : d'.toList[i]? with
      | none => rw [hx] at hq; cases hq
      | some x =>
        rw [hx] at hq
        obtain rfl : x.path = q := by simpa using hq
        refine ⟨x.val, by rw [List.getElem?_map, hx]; rfl, x.at_.move (sort_size _ w blk 0 m d' os) fun b hb hbw' => ⟨hb, sort_old _ w blk 0 m d' os hbw' hb.2.1⟩⟩
    · have hp1 : d'.size = d.toArray.size := hp.1
      have hh := SW.holds (w0 := w) ⟨m, os, rfl⟩ hbw hH hp1
      refine ⟨by simp [hp1, hsz], by unfold maxLen; omega, fun h0 => ⟨blk, 0, rfl, rfl, Nat.lt_of_lt_of_le hbw (sort_size _ w blk 0 m d' os), fun i hi => ?_⟩⟩
      have hi' : i < d'.size := by rw [hp1, hsz]; exact hi
      rw [(hh i hi').1, List.getElem?_map]
      rw [getElem!_pos d' i hi']
      rw [show d'.toList[i]? = some (d'[i]'hi') by rw [Array.getElem?_toList]; exact Array.getElem?_eq_getElem hi']
      rfl
end Go.Proofs.YtpgklnhkfgbpgaaGreatDoor
namespace Go.Proofs.YtpgklnhkfgbpgaaGreatDoor
open Go.ChangeShapes Go.WideShapes Go.ChangeAt Go.RowKit
set_option linter.unusedVariables false
set_option linter.unusedSimpArgs false

set_option maxHeartbeats 2000000 in
theorem insertion_none (fv : Value) (w : World) : Calls Tryz.prog 146 #[.slice none 0 0, .int .i64 0, .int .i64 0, fv] w fun e w' => e = .returned (.tuple #[]) ∧ w' = w := by
  go_enter Tryz.func146, Tryz.ntmps146
  go_wp2
  refine wp_loop_rounds 1 ?_
  rw [rounds_succ]
  go_wp2
  go_end0
  exact ⟨rfl, rfl⟩
set_option maxHeartbeats 2000000 in
theorem pdq_none (lim : Int) (fv : Value) (w : World) : Calls Tryz.prog 117 #[.slice none 0 0, .int .i64 0, .int .i64 0, .int .i64 lim, fv] w fun e w' => e = .returned (.tuple #[]) ∧ w' = w := by
  go_enter Tryz.func117, Tryz.ntmps117
  go_wp2
  refine wp_loop_rounds 1 ?_
  rw [rounds_succ]
  go_wp2_with fail
  refine (insertion_none _ _).mono ?_
  rintro e w' ⟨rfl, rfl⟩
  go_wp2_with fail
  (try simp only [Exit.inBlock, Exit.then])
  refine bodyPost_ret (results_none rfl _ _ _) rfl ?_
  exact ⟨rfl, rfl⟩
set_option maxHeartbeats 2000000 in
theorem sort_none (fv : Value) (w : World) : Calls Tryz.prog 73 #[.slice none 0 0, fv] w fun e w' => e = .returned (.tuple #[]) ∧ w' = w := by
  have hl : Calls Tryz.prog 118 #[.int .u64 0] w fun e w' => e = .returned (.int .i64 (Lib.bitLen 0 : Nat)) ∧ w' = w := Tryz.bits_Len 0 w (by omega) (by omega)
  go_enter Tryz.func73, Tryz.ntmps73
  go_wp2_with fail
  refine hl.mono ?_
  rintro e w' ⟨rfl, rfl⟩
  go_wp2_with fail
  refine (pdq_none _ _ _).mono ?_
  rintro e w' ⟨rfl, rfl⟩
  go_wp2_with fail
  go_end0
  exact ⟨rfl, rfl⟩
end Go.Proofs.YtpgklnhkfgbpgaaGreatDoor
