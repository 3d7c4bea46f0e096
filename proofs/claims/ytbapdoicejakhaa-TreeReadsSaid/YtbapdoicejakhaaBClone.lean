/- slices.Clone of bytes. -/
import Derived.Test.YtbapdoicejakhaaRows2
import Derived.Lib.SliceRun
namespace Go.Proofs.Ytbapdoicejakhaa
open Go.ChangeShapes Go.WideShapes Go.ChangeAt Go.RowKit
set_option linter.unusedVariables false

set_option maxHeartbeats 1000000 in
theorem bclone_any (b off n cap : Nat) (bs : List UInt8) (w : World) (hn : 0 < n) (hl : bs.length = n) (hm : n ≤ 1048576) (hc : ∀ j u, (bs.map bv)[j]? = some u → w.cell? ((⟨b, off, none⟩ : Addr).add j) = some u) (hb : b < w.heap.size) :
    Calls Try.prog 32 #[.slice (some ⟨b, off, none⟩) n cap] w fun e w' => ∃ v, e = .returned v ∧ RowV (fun x => w.heap.size ≤ x ∧ x < w'.heap.size) w' n v bs ∧ Below w.heap.size w w' := by
  obtain ⟨i0, hi, hz0, hz1, hz2⟩ := info_parts Try.info8
  have heq := fun w => Lib.run_eql_slice_nil (P := Try.prog) w 29 5 (some ⟨b, off, none⟩) n cap 0 0 Try.underlying29
  go_enter Try.func32, Try.ntmps32
  go_wp2_with ((at_builtin; refine wpList_append_own _ rfl _ _ 29 rfl w.heap.size 5 i0 (.int .u8 0) 1 1 Try.underlying29 hi hz0 hz1 hz2 rfl (by omega) _ 0 [] rfl ⟨rfl, .inr ⟨w.heap.size, 0, #[], rfl, Nat.le_refl _, (MapKept.heap_alloc w _).1, Nat.le_refl _, Nat.zero_le _, rfl, rfl⟩⟩ ⟨b, off, none⟩ n cap (bs.map bv) rfl (by simp [hl]) (fun j u hu => (World.cell?_of_block (w := w) (w' := w.alloc _) (a := (⟨b, off, none⟩ : Addr).add j) (by rw [add_plain]; exact Below.heap_alloc w _ b hb)).trans (hc j u hu)) (by intro u hu; obtain ⟨x, _, rfl⟩ := List.mem_map.1 hu; rfl) (by unfold maxLen; omega) (by omega) (by simp) ?_; intro v w2 hown2 hgrow2 hnil2))
  go_ret
  have hs2 := hgrow2.size
  rw [World.size_alloc] at hs2
  have hB2 : Below w.heap.size w w2 := ((Below.refl _ _).alloc (Nat.le_refl _) _).grown hgrow2 (by simp) (fun k hk => by cases hk; exact Nat.le_refl _)
  obtain ⟨hlen, h⟩ := hown2
  rcases h with ⟨rfl, h0⟩ | ⟨g, cp, cur, rfl, hbg, hcur, h1, h2, h3, h4⟩
  · omega
  · refine ⟨_, rfl, ⟨hl, g, cp, cur, by simp, ⟨hbg, (Array.getElem?_eq_some_iff.1 hcur).1⟩, hcur, by simpa using h4, by omega, h2, by simpa using h3⟩, hB2⟩
end Go.Proofs.Ytbapdoicejakhaa
