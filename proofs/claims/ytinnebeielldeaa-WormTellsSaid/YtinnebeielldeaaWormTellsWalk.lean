/- The walk of WormTells: it returns true for every node and all times. -/
import Derived.Test.YtinnebeielldeaaWormRules
import Derived.Test.YtinnebeielldeaaNodeArg
namespace Go.Proofs.Ytinnebeielldeaa.wormTells
open Go.ChangeShapes Go.WideShapes Go.ChangeAt Go.RowKit
set_option linter.unusedVariables false

theorem walk {H : Type} {enc : TypeId × Value → H} (W : World) (base : Nat) (v0 : Value) (d0 : DataW H) (p0 : List MemPlace) (o0 : Value.okWide Try.prog W .any base 31 v0) (h0 : DataW.Trod enc Try.prog W 0 (fun _ => true) true 31 v0 d0 p0) (l0 : ∀ x ∈ p0, x.block < W.heap.size) (a1 : Int) (w1 : (Lit.int .u64 a1).wf = true) (a2 : Int) (w2 : (Lit.int .u64 a2).wf = true) (hsz : (DataW.weightsEach Try.prog [31, 23, 23] ([d0, .lit (.int .u64 a1), .lit (.int .u64 a2)] : List (DataW H))).all (· ≤ reachBytes) = true) :
    Calls Try.prog 8 #[v0, .int .u64 a1, .int .u64 a2] W (Fine W) := by
  obtain ⟨i, k, l, s, u, c, rfl, _, _, _, _, _⟩ := open_node o0 h0
  clear hsz o0 h0 l0
  have b1 := bounds_u64 w1
  have b2 := bounds_u64 w2
  clear w1 w2
  go_enter Try.func8, Try.ntmps8
  go_wp2_with fail
  refine (same12_any _ _ _ _ _ _ _ _ _).mono ?_
  rintro e w1 ⟨rfl, hb1⟩
  obtain ⟨hc1, hf1⟩ := bcell hb1
  have sz1 := hb1.size
  try simp only [World.size_alloc] at sz1
  have hz1_0 : W.heap.size < w1.heap.size := by omega
  have hz1_1 : W.heap.size + 1 < w1.heap.size := by omega
  have B1 : Below W.heap.size W w1 := Below.trans (by repeat (first | exact Below.refl _ _ | refine Below.alloc ?_ (by first | omega | (simp; done) | (simp; omega)) _)) (hb1.mono (by first | omega | (simp; done) | (simp; omega)))
  go_wp2_with fail
  refine (same12_any _ _ _ _ _ _ _ _ _).mono ?_
  rintro e w2 ⟨rfl, hb2⟩
  obtain ⟨hc2, hf2⟩ := bcell hb2
  have sz2 := hb2.size
  try simp only [World.size_alloc] at sz2
  have hz2_0 : W.heap.size < w2.heap.size := by omega
  have hz2_1 : W.heap.size + 1 < w2.heap.size := by omega
  have B2 : Below W.heap.size W w2 := Below.trans (by repeat (first | exact B1 | refine Below.alloc ?_ (by first | omega | (simp; done) | (simp; omega)) _)) (hb2.mono (by first | omega | (simp; done) | (simp; omega)))
  go_wp2_with fail
  refine (same12_any _ _ _ _ _ _ _ _ _).mono ?_
  rintro e w3 ⟨rfl, hb3⟩
  obtain ⟨hc3, hf3⟩ := bcell hb3
  have sz3 := hb3.size
  try simp only [World.size_alloc] at sz3
  have hz3_0 : W.heap.size < w3.heap.size := by omega
  have hz3_1 : W.heap.size + 1 < w3.heap.size := by omega
  have B3 : Below W.heap.size W w3 := Below.trans (by repeat (first | exact B2 | refine Below.alloc ?_ (by first | omega | (simp; done) | (simp; omega)) _)) (hb3.mono (by first | omega | (simp; done) | (simp; omega)))
  go_wp2_with fail
  refine (known12_any _).mono ?_
  rintro e w4 ⟨rfl, hb4⟩
  obtain ⟨hc4, hf4⟩ := bcell hb4
  have sz4 := hb4.size
  try simp only [World.size_alloc] at sz4
  have B4 : Below W.heap.size W w4 := Below.trans (by repeat (first | exact B3 | refine Below.alloc ?_ (by first | omega | (simp; done) | (simp; omega)) _)) (hb4.mono (by first | omega | (simp; done) | (simp; omega)))
  go_wp2_with fail
  go_ret
  exact ⟨rfl, B4⟩
end Go.Proofs.Ytinnebeielldeaa.wormTells
