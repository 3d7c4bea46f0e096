/- slices.Sorted(maps.Keys(m)) of a tree's nodes: the IDs, rising. -/
import Derived.Test.YtcmlfaolooglfaaMapAt
import Derived.Test.YtcmlfaolooglfaaKeysLayT
import Derived.Shelf.SlIterI.Nil
import Derived.Shelf.SlIterI.Sorted
import Derived.Shelf.SortM.Plain
import Derived.Shelf.SortM.SortNone
import Derived.Ground.GgzProg
import Derived.Ground.SlgmProg
namespace Go.Proofs
open Go.RowKit Go.Maps Go.Sort Go.Shelf
theorem Try.sortsT (m : Nat) : AnyZI.SortsIn Try.prog Try.sortedT_ren Fence.wide m :=
  ⟨fun blk off cap ss W hH hblk hsz => callsIn_wide.2 (AnyM.slices_Sort_int Try.sortT blk off cap ss W hH hblk hsz),
   fun p cap W => callsIn_wide.2 (AnyM.slices_Sort_int_none Try.sortT p cap W)⟩
theorem Try.keysOfT (mb : Option Nat) (W : World) : Calls Try.prog 28 #[.map mb] W fun e w' => e = .returned (.func (.func 34) #[] #[.pointer (some ⟨W.heap.size, 0, none⟩)]) ∧ w' = W.alloc (.cells #[.map mb] 51) :=
  callsIn_wide.1 (AnyZI.keys_in Try.keysT Fence.wide 5 trivial rfl mb W)
set_option maxHeartbeats 1000000 in
theorem Try.sortedOfT {H : Type} (b nn : Nat) (D0 : DataW H) (R : Value → Option (DataW H × List MemPlace)) (w : World) (hown : w.ownsMap Try.prog 3 R b nn D0) (hmax : Maps.size D0 ≤ maxLen) (hbytes : Maps.size D0 * 8 ≤ 140737488355328) :
    Calls Try.prog 27 #[.func (.func 34) #[] #[.pointer (some ⟨w.heap.size, 0, none⟩)]] (w.alloc (.cells #[.map (some b)] 51)) fun e w' => ∃ (v : Value) (ss : List Int), e = .returned v ∧ ss.Perm (intKeys D0) ∧
      w'.ownsRow (w.alloc (.cells #[.map (some b)] 51)).heap.size 3 1 v ss.length ((ss.mergeSort (fun x y => decide (x ≤ y))).map encZ) ∧ (v = .slice none 0 0 ↔ ss = []) ∧ Below (w.alloc (.cells #[.map (some b)] 51)).heap.size (w.alloc (.cells #[.map (some b)] 51)) w' := by
  have hbl := hown.lt
  have hseq : SeqGives Fence.wide 2 Try.prog 34 #[.pointer (some ⟨w.heap.size, 0, none⟩)] encZ (fun ss => ss.Perm (intKeys D0)) (Maps.size D0) (w.alloc (.cells #[.map (some b)] 51)) :=
    AnyZI.keys_gives (ρ := Try.keysT_ren) { Try.keysT with } Fence.wide _ trivial rfl (by omega) w.heap.size b nn D0 _ (by simp) (by simp) (by
      obtain ⟨es, clock, hb, Ft, hs, hD⟩ := hown
      exact ⟨es, clock, (Below.heap_alloc _ _ b hbl).trans hb, Ft, hs, hD⟩)
  exact callsIn_wide.1 (AnyZI.sorted_in Try.sortedT Fence.wide 5 trivial trivial trivial trivial rfl (by omega) (Try.sortsT _) (enters_of Try.func33 (by kernel_rfl) rfl) 34 #[.pointer (some ⟨w.heap.size, 0, none⟩)] trivial (enters_of Try.func34 (by kernel_rfl) rfl) _ _ hmax hbytes _ hseq)
end Go.Proofs
