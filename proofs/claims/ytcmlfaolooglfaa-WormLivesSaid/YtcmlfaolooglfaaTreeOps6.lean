/- tree: New; Drop refused. -/
import Derived.Test.YtcmlfaolooglfaaTreeOps3
namespace Go.Proofs.Ytcmlfaolooglfaa
open Go.ChangeShapes Go.WideShapes Go.ChangeAt Go.RowKit
set_option linter.unusedVariables false
set_option linter.unusedSimpArgs false

/-- The block of a new tree's head, its map, its first item. -/
def newG (B b : Nat) : Own := if b = B then .items else if b = B + 1 then .item 0 else if b = B + 2 then .names 0 else .none
theorem new_mid {w w1 w2 : World} (hi : ItemAt (fun _ => False) w1 0 (w.heap.size + 1) (w.heap.size + 1 + 1) (freshM 2)) (hb : Below (w.heap.size + 1) (w.alloc (.map #[] 0)) w1) (hs : w.heap.size + 1 + 1 < w1.heap.size)
    (hM : MapAt intK w2 w.heap.size (aput intK.lt 0 (ptr (w.heap.size + 1)) [])) (hT : w1.mapTurned w2 w.heap.size) :
    TreeAt (fun b => if b = w2.heap.size then .head else newG w.heap.size b) (fun _ => False) (w2.alloc (.cells #[.map (some w.heap.size)] 53)) w2.heap.size w.heap.size (fun _ => w.heap.size + 1) (fun _ => w.heap.size + 2) newM ∧ Below w.heap.size w (w2.alloc (.cells #[.map (some w.heap.size)] 53)) := by
  have hsz := turned_size hT
  have hK := turned_keeps hT
  have hw3 : ∀ b, b < w2.heap.size → (w2.alloc (.cells #[.map (some w.heap.size)] 53)).heap[b]? = w2.heap[b]? := fun b hb => Below.heap_alloc _ _ _ hb
  have hget : ∀ k x, aget k newM = some x → k = 0 ∧ x = freshM 2 := fun k x h => by
    unfold newM at h
    rw [aget_cons] at h
    by_cases hk : (0 : Int) = k
    · rw [if_pos hk] at h; exact ⟨hk.symm, by cases h; rfl⟩
    · rw [if_neg hk] at h; cases h
  have hB0 : Below w.heap.size w (w.alloc (.map #[] 0)) := wall w _
  constructor
  · refine ⟨(MapKept.heap_alloc w2 _).1, ?_, fun k x hx => ?_, by simp, ?_, fun k x hx => ?_, fun k x hx _ => ?_, fun _ h => h.elim, fun b hb => ?_, fun _ h => h.elim⟩
    · have := hM.kept (hw3 _ (by omega))
      exact this
    · obtain ⟨rfl, rfl⟩ := hget k x hx
      refine hi.move (by simp; omega) ?_ (fun _ => ?_) (fun _ h => h.elim)
      · rw [hw3 _ (by omega), hK.block _ (by omega) (by omega)]
      · rw [hw3 _ (by omega), hK.block _ (by omega) (by omega)]
    · rw [if_neg (by omega)]; simp [newG]
    · obtain ⟨rfl, rfl⟩ := hget k x hx
      rw [if_neg (by omega)]; simp [newG]
    · obtain ⟨rfl, rfl⟩ := hget k x hx
      rw [if_neg (by omega)]; simp [newG]
    · rw [World.size_alloc]
      by_cases h1 : b = w2.heap.size
      · omega
      · rw [if_neg h1] at hb
        unfold newG at hb
        by_cases h2 : b = w.heap.size
        · omega
        · by_cases h3 : b = w.heap.size + 1
          · omega
          · by_cases h4 : b = w.heap.size + 2
            · omega
            · simp [h2, h3, h4] at hb
  · refine (hB0.trans (hb.mono (by omega))).trans ⟨hK.os, hK.tape, hK.output, by rw [World.size_alloc]; omega, fun b hbw => ?_⟩
    have := hb.size
    rw [World.size_alloc] at this
    rw [hw3 _ (by omega), hK.block _ (by omega) (by omega)]
set_option maxHeartbeats 1000000 in
theorem new_any (w : World) : Calls Try.prog 10 #[] w fun e w' => ∃ g mb ib nb p, e = .returned (ptr p) ∧ TreeAt g (fun _ => False) w' p mb ib nb newM ∧ (∀ b, g b ≠ .none → w.heap.size ≤ b) ∧ Below w.heap.size w w' := by
  have hmm := @run_makeMap Try.prog
  have HST : Hid (∀ w1, Below (w.heap.size + 1) (w.alloc (.map #[] 0)) w1 → ∃ w2, (Instr.mapUpdate 51 (.map (some w.heap.size)) (.int .i64 0) (ptr (w.heap.size + 1))).run Try.prog w1 = .ok () w2 ∧ MapAt intK w2 w.heap.size (aput intK.lt 0 (ptr (w.heap.size + 1)) []) ∧ w1.mapTurned w2 w.heap.size) := fun w1 hb => by
    have hm1 : MapAt intK w1 w.heap.size [] := (MapAt.made (F := intK) w).kept (hb.block _ (by omega))
    exact hm1.store_run intK Try.underlying51 (by show 0 < maxLen; unfold maxLen; omega) 0 _ (okInt (by omega) (by omega))
  go_enter Try.func10, Try.ntmps10
  go_wp2_with fail
  (with_reducible refine (fresh_any _ _ _).mono ?_)
  rintro e w1 ⟨rfl, hi1, hb1, hs1, hs2⟩
  rw [World.size_alloc] at hi1 hb1 hs1 hs2
  obtain ⟨w2, hrun2, hM2, hT2⟩ := HST.out w1 hb1
  have HI1 := Lib.hid hi1
  have HB1 := Lib.hid hb1
  have HM2 := Lib.hid hM2
  have HT2 := Lib.hid hT2
  have hs3 := hs2 rfl
  clear hi1 hb1 hM2 hT2 hs2
  go_wp2_with fail
  go_ret
  obtain ⟨h1, h2⟩ := new_mid HI1.out HB1.out hs3 HM2.out HT2.out
  refine ⟨_, _, _, _, _, rfl, h1, fun b hb => ?_, h2⟩
  have h3 := HB1.out.size
  rw [World.size_alloc] at h3
  have h4 := turned_size HT2.out
  by_cases e1 : b = w2.heap.size
  · omega
  · rw [if_neg e1] at hb
    unfold newG at hb
    by_cases e2 : b = w.heap.size
    · omega
    · by_cases e3 : b = w.heap.size + 1
      · omega
      · by_cases e4 : b = w.heap.size + 2
        · omega
        · simp [e2, e3, e4] at hb
theorem newM_ok : OkM newM := by
  have hget : ∀ k x, aget k newM = some x → k = 0 ∧ x = freshM 2 := fun k x h => by
    unfold newM at h
    rw [aget_cons] at h
    by_cases hk : (0 : Int) = k
    · rw [if_pos hk] at h; exact ⟨hk.symm, by cases h; rfl⟩
    · rw [if_neg hk] at h; cases h
  refine ⟨⟨by simp [newM, ASorted], rfl, fun k x hx => ?_, fun k x hx e he => ?_, by simp [newM], fun k x hx => ?_⟩, fun k x hx hk => ?_⟩
  · obtain ⟨rfl, rfl⟩ := hget k x hx; exact ok1_fresh (.inr rfl)
  · obtain ⟨rfl, rfl⟩ := hget k x hx; cases he
  · obtain ⟨rfl, rfl⟩ := hget k x hx; omega
  · exact absurd (hget k x hx).1 hk

end Go.Proofs.Ytcmlfaolooglfaa
