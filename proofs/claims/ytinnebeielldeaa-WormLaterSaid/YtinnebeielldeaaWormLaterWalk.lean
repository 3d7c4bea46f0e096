/- The walk of WormLater: it returns true for every node and all times. -/
import Derived.Test.YtinnebeielldeaaWormRules
import Derived.Test.YtinnebeielldeaaNodeArg
namespace Go.Proofs.Ytinnebeielldeaa.wormLater
open Go.ChangeShapes Go.WideShapes Go.ChangeAt Go.RowKit
set_option linter.unusedVariables false

theorem later (l u : Int) (c : Bool) (now later : Int) (h : now ≤ later) (h1 : removeOf 1 l u c now = 0) : removeOf 1 l u c later = 0 := by
  unfold removeOf kindOf at *
  split at h1
  · omega
  · rename_i hn
    rw [if_neg (fun hh => hn ⟨hh.1, hh.2.1, hh.2.2.1, by omega⟩)]
    rfl
theorem longer (l u v : Int) (c : Bool) (now : Int) (h : u ≤ v) (h1 : removeOf 1 l v c now = 0) : removeOf 1 l u c now = 0 := by
  unfold removeOf kindOf at *
  split at h1
  · omega
  · rename_i hn
    rw [if_neg (fun hh => hn ⟨hh.1, hh.2.1, hh.2.2.1, by omega⟩)]
    rfl
theorem two (u : Int) (c : Bool) (now : Int) : removeOf 1 2 u c now = 0 := by simp [removeOf, kindOf]
theorem open_ (l u : Int) (now : Int) : removeOf 1 l u false now = 0 := by simp [removeOf, kindOf]

set_option maxHeartbeats 1000000 in
theorem walk {H : Type} {enc : TypeId × Value → H} (W : World) (base : Nat) (v0 : Value) (d0 : DataW H) (p0 : List MemPlace) (o0 : Value.okWide Try.prog W .any base 31 v0) (h0 : DataW.Trod enc Try.prog W 0 (fun _ => true) true 31 v0 d0 p0) (l0 : ∀ x ∈ p0, x.block < W.heap.size) (a1 : Int) (w1 : (Lit.int .u64 a1).wf = true) (a2 : Int) (w2 : (Lit.int .u64 a2).wf = true) (a3 : Int) (w3 : (Lit.int .u64 a3).wf = true) (hsz : (DataW.weightsEach Try.prog [31, 23, 23, 23] ([d0, .lit (.int .u64 a1), .lit (.int .u64 a2), .lit (.int .u64 a3)] : List (DataW H))).all (· ≤ reachBytes) = true) :
    Calls Try.prog 7 #[v0, .int .u64 a1, .int .u64 a2, .int .u64 a3] W (Fine W) := by
  obtain ⟨i, k, l, s, u, c, rfl, _, _, _, _, wu⟩ := open_node o0 h0
  clear hsz o0 h0 l0
  have b1 := bounds_u64 w1
  have b2 := bounds_u64 w2
  have b3 := bounds_u64 w3
  have bu := bounds_u64 wu
  clear w1 w2 w3 wu
  have t1 := later l (u % 150) c (a1 % 100) (a1 % 100 + a2 % 100) (by omega)
  have t2 := longer l (u % 150) (u % 150 + a3 % 50) c (a1 % 100) (by omega)
  have T : (((removeOf 1 l (u % 150) c (a1 % 100) : Int) == 0) = true ∧ ((removeOf 1 l (u % 150) c (a1 % 100) : Int) != 0) = false ∧ ((removeOf 1 l (u % 150) c (a1 % 100 + a2 % 100) : Int) != 0) = false ∧ ((removeOf 1 l (u % 150 + a3 % 50) c (a1 % 100) : Int) == 0) = true) ∨
      (((removeOf 1 l (u % 150) c (a1 % 100) : Int) == 0) = true ∧ ((removeOf 1 l (u % 150) c (a1 % 100 + a2 % 100) : Int) != 0) = false ∧ ((removeOf 1 l (u % 150 + a3 % 50) c (a1 % 100) : Int) == 0) = false) ∨
      (((removeOf 1 l (u % 150) c (a1 % 100) : Int) == 0) = false ∧ ((removeOf 1 l (u % 150 + a3 % 50) c (a1 % 100) : Int) == 0) = false) := by
    by_cases q1 : removeOf 1 l (u % 150) c (a1 % 100) = 0
    · by_cases q3 : removeOf 1 l (u % 150 + a3 % 50) c (a1 % 100) = 0
      · exact Or.inl ⟨by simp [q1], by simp [q1], by simp [t1 q1], by simp [q3]⟩
      · exact Or.inr (Or.inl ⟨by simp [q1], by simp [t1 q1], by simp [q3]⟩)
    · have q3 : ¬ removeOf 1 l (u % 150 + a3 % 50) c (a1 % 100) = 0 := fun h => q1 (t2 h)
      exact Or.inr (Or.inr ⟨by simp [q1], by simp [q3]⟩)
  clear t1 t2
  rcases T with ⟨e1, e2, e3, e4⟩ | ⟨e1, e2, e3⟩ | ⟨e1, e2⟩
  · cases c
    · go_enter Try.func7, Try.ntmps7
      go_wp2_with fail
      refine (wremove_any _ _ _ _ _ _ _ _).mono ?_
      rintro e w1 ⟨rfl, hb1⟩
      obtain ⟨hc1, hf1⟩ := bcell hb1
      have sz1 := hb1.size
      try simp only [World.size_alloc] at sz1
      have hz1_0 : W.heap.size < w1.heap.size := by omega
      have B1 : Below W.heap.size W w1 := Below.trans (by repeat (first | exact Below.refl _ _ | refine Below.alloc ?_ (by first | omega | (simp; done) | (simp; omega)) _)) (hb1.mono (by first | omega | (simp; done) | (simp; omega)))
      go_wp2_with fail
      refine (wremove_any _ _ _ _ _ _ _ _).mono ?_
      rintro e w2 ⟨rfl, hb2⟩
      obtain ⟨hc2, hf2⟩ := bcell hb2
      have sz2 := hb2.size
      try simp only [World.size_alloc] at sz2
      have hz2_0 : W.heap.size < w2.heap.size := by omega
      have B2 : Below W.heap.size W w2 := Below.trans (by repeat (first | exact B1 | refine Below.alloc ?_ (by first | omega | (simp; done) | (simp; omega)) _)) (hb2.mono (by first | omega | (simp; done) | (simp; omega)))
      go_wp2_with fail
      go_wp2_with fail
      refine (wremove_any _ _ _ _ _ _ _ _).mono ?_
      rintro e w3 ⟨rfl, hb3⟩
      obtain ⟨hc3, hf3⟩ := bcell hb3
      have sz3 := hb3.size
      try simp only [World.size_alloc] at sz3
      have hz3_0 : W.heap.size < w3.heap.size := by omega
      have hz3_1 : w2.heap.size < w3.heap.size := by omega
      have B3 : Below W.heap.size W w3 := Below.trans (by repeat (first | exact B2 | refine Below.alloc ?_ (by first | omega | (simp; done) | (simp; omega)) _)) (hb3.mono (by first | omega | (simp; done) | (simp; omega)))
      go_wp2_with fail
      refine (wremove_any _ _ _ _ _ _ _ _).mono ?_
      rintro e w4 ⟨rfl, hb4⟩
      obtain ⟨hc4, hf4⟩ := bcell hb4
      have sz4 := hb4.size
      try simp only [World.size_alloc] at sz4
      have hz4_0 : W.heap.size < w4.heap.size := by omega
      have hz4_1 : w2.heap.size < w4.heap.size := by omega
      have B4 : Below W.heap.size W w4 := Below.trans (by repeat (first | exact B3 | refine Below.alloc ?_ (by first | omega | (simp; done) | (simp; omega)) _)) (hb4.mono (by first | omega | (simp; done) | (simp; omega)))
      have hy0 : W.heap.size < w4.heap.size + 1 := by omega
      go_wp2_with fail
      refine (wremove_any _ _ _ _ _ _ _ _).mono ?_
      rintro e w5 ⟨rfl, hb5⟩
      rw [two]
      obtain ⟨hc5, hf5⟩ := bcell hb5
      have sz5 := hb5.size
      try simp only [World.size_alloc] at sz5
      have hz5_0 : W.heap.size < w5.heap.size := by omega
      have hz5_1 : w2.heap.size < w5.heap.size := by omega
      have hz5_2 : w4.heap.size < w5.heap.size := by omega
      have hz5_3 : w4.heap.size + 1 < w5.heap.size := by omega
      have B5 : Below W.heap.size W w5 := Below.trans (by repeat (first | exact B4 | refine Below.alloc ?_ (by first | omega | (simp; done) | (simp; omega)) _)) (hb5.mono (by first | omega | (simp; done) | (simp; omega)))
      go_wp2_with fail
      refine (wremove_any _ _ _ _ _ _ _ _).mono ?_
      rintro e w6 ⟨rfl, hb6⟩
      rw [open_]
      obtain ⟨hc6, hf6⟩ := bcell hb6
      have sz6 := hb6.size
      try simp only [World.size_alloc] at sz6
      have hz6_0 : W.heap.size < w6.heap.size := by omega
      have hz6_1 : w2.heap.size < w6.heap.size := by omega
      have hz6_2 : w4.heap.size < w6.heap.size := by omega
      have hz6_3 : w4.heap.size + 1 < w6.heap.size := by omega
      have B6 : Below W.heap.size W w6 := Below.trans (by repeat (first | exact B5 | refine Below.alloc ?_ (by first | omega | (simp; done) | (simp; omega)) _)) (hb6.mono (by first | omega | (simp; done) | (simp; omega)))
      go_wp2_with fail
      refine (wwrite_any _ _ _ _ _ _ _).mono ?_
      rintro e w7 ⟨rfl, hb7⟩
      rw [show writeOf 1 false = 0 from rfl]
      obtain ⟨hc7, hf7⟩ := bcell hb7
      have sz7 := hb7.size
      try simp only [World.size_alloc] at sz7
      have hz7_0 : W.heap.size < w7.heap.size := by omega
      have hz7_1 : w2.heap.size < w7.heap.size := by omega
      have hz7_2 : w4.heap.size < w7.heap.size := by omega
      have hz7_3 : w4.heap.size + 1 < w7.heap.size := by omega
      have B7 : Below W.heap.size W w7 := Below.trans (by repeat (first | exact B6 | refine Below.alloc ?_ (by first | omega | (simp; done) | (simp; omega)) _)) (hb7.mono (by first | omega | (simp; done) | (simp; omega)))
      go_wp2_with fail
      refine (known12_any _).mono ?_
      rintro e w8 ⟨rfl, hb8⟩
      obtain ⟨hc8, hf8⟩ := bcell hb8
      have sz8 := hb8.size
      try simp only [World.size_alloc] at sz8
      have hz8_0 : W.heap.size < w8.heap.size := by omega
      have hz8_1 : w2.heap.size < w8.heap.size := by omega
      have hz8_2 : w4.heap.size < w8.heap.size := by omega
      have hz8_3 : w4.heap.size + 1 < w8.heap.size := by omega
      have B8 : Below W.heap.size W w8 := Below.trans (by repeat (first | exact B7 | refine Below.alloc ?_ (by first | omega | (simp; done) | (simp; omega)) _)) (hb8.mono (by first | omega | (simp; done) | (simp; omega)))
      go_wp2_with fail
      go_ret
      exact ⟨rfl, B8⟩
    · go_enter Try.func7, Try.ntmps7
      go_wp2_with fail
      refine (wremove_any _ _ _ _ _ _ _ _).mono ?_
      rintro e w1 ⟨rfl, hb1⟩
      obtain ⟨hc1, hf1⟩ := bcell hb1
      have sz1 := hb1.size
      try simp only [World.size_alloc] at sz1
      have hz1_0 : W.heap.size < w1.heap.size := by omega
      have B1 : Below W.heap.size W w1 := Below.trans (by repeat (first | exact Below.refl _ _ | refine Below.alloc ?_ (by first | omega | (simp; done) | (simp; omega)) _)) (hb1.mono (by first | omega | (simp; done) | (simp; omega)))
      go_wp2_with fail
      refine (wremove_any _ _ _ _ _ _ _ _).mono ?_
      rintro e w2 ⟨rfl, hb2⟩
      obtain ⟨hc2, hf2⟩ := bcell hb2
      have sz2 := hb2.size
      try simp only [World.size_alloc] at sz2
      have hz2_0 : W.heap.size < w2.heap.size := by omega
      have B2 : Below W.heap.size W w2 := Below.trans (by repeat (first | exact B1 | refine Below.alloc ?_ (by first | omega | (simp; done) | (simp; omega)) _)) (hb2.mono (by first | omega | (simp; done) | (simp; omega)))
      go_wp2_with fail
      go_wp2_with fail
      refine (wremove_any _ _ _ _ _ _ _ _).mono ?_
      rintro e w3 ⟨rfl, hb3⟩
      obtain ⟨hc3, hf3⟩ := bcell hb3
      have sz3 := hb3.size
      try simp only [World.size_alloc] at sz3
      have hz3_0 : W.heap.size < w3.heap.size := by omega
      have hz3_1 : w2.heap.size < w3.heap.size := by omega
      have B3 : Below W.heap.size W w3 := Below.trans (by repeat (first | exact B2 | refine Below.alloc ?_ (by first | omega | (simp; done) | (simp; omega)) _)) (hb3.mono (by first | omega | (simp; done) | (simp; omega)))
      go_wp2_with fail
      refine (wremove_any _ _ _ _ _ _ _ _).mono ?_
      rintro e w4 ⟨rfl, hb4⟩
      obtain ⟨hc4, hf4⟩ := bcell hb4
      have sz4 := hb4.size
      try simp only [World.size_alloc] at sz4
      have hz4_0 : W.heap.size < w4.heap.size := by omega
      have hz4_1 : w2.heap.size < w4.heap.size := by omega
      have B4 : Below W.heap.size W w4 := Below.trans (by repeat (first | exact B3 | refine Below.alloc ?_ (by first | omega | (simp; done) | (simp; omega)) _)) (hb4.mono (by first | omega | (simp; done) | (simp; omega)))
      have hy0 : W.heap.size < w4.heap.size + 1 := by omega
      go_wp2_with fail
      refine (wremove_any _ _ _ _ _ _ _ _).mono ?_
      rintro e w5 ⟨rfl, hb5⟩
      rw [two]
      obtain ⟨hc5, hf5⟩ := bcell hb5
      have sz5 := hb5.size
      try simp only [World.size_alloc] at sz5
      have hz5_0 : W.heap.size < w5.heap.size := by omega
      have hz5_1 : w2.heap.size < w5.heap.size := by omega
      have hz5_2 : w4.heap.size < w5.heap.size := by omega
      have hz5_3 : w4.heap.size + 1 < w5.heap.size := by omega
      have B5 : Below W.heap.size W w5 := Below.trans (by repeat (first | exact B4 | refine Below.alloc ?_ (by first | omega | (simp; done) | (simp; omega)) _)) (hb5.mono (by first | omega | (simp; done) | (simp; omega)))
      go_wp2_with fail
      refine (wremove_any _ _ _ _ _ _ _ _).mono ?_
      rintro e w6 ⟨rfl, hb6⟩
      rw [open_]
      obtain ⟨hc6, hf6⟩ := bcell hb6
      have sz6 := hb6.size
      try simp only [World.size_alloc] at sz6
      have hz6_0 : W.heap.size < w6.heap.size := by omega
      have hz6_1 : w2.heap.size < w6.heap.size := by omega
      have hz6_2 : w4.heap.size < w6.heap.size := by omega
      have hz6_3 : w4.heap.size + 1 < w6.heap.size := by omega
      have B6 : Below W.heap.size W w6 := Below.trans (by repeat (first | exact B5 | refine Below.alloc ?_ (by first | omega | (simp; done) | (simp; omega)) _)) (hb6.mono (by first | omega | (simp; done) | (simp; omega)))
      go_wp2_with fail
      refine (wwrite_any _ _ _ _ _ _ _).mono ?_
      rintro e w7 ⟨rfl, hb7⟩
      rw [show writeOf 1 false = 0 from rfl]
      obtain ⟨hc7, hf7⟩ := bcell hb7
      have sz7 := hb7.size
      try simp only [World.size_alloc] at sz7
      have hz7_0 : W.heap.size < w7.heap.size := by omega
      have hz7_1 : w2.heap.size < w7.heap.size := by omega
      have hz7_2 : w4.heap.size < w7.heap.size := by omega
      have hz7_3 : w4.heap.size + 1 < w7.heap.size := by omega
      have B7 : Below W.heap.size W w7 := Below.trans (by repeat (first | exact B6 | refine Below.alloc ?_ (by first | omega | (simp; done) | (simp; omega)) _)) (hb7.mono (by first | omega | (simp; done) | (simp; omega)))
      go_wp2_with fail
      refine (wwrite_any _ _ _ _ _ _ _).mono ?_
      rintro e w8 ⟨rfl, hb8⟩
      rw [show writeOf 1 true = 27 from rfl]
      obtain ⟨hc8, hf8⟩ := bcell hb8
      have sz8 := hb8.size
      try simp only [World.size_alloc] at sz8
      have hz8_0 : W.heap.size < w8.heap.size := by omega
      have hz8_1 : w2.heap.size < w8.heap.size := by omega
      have hz8_2 : w4.heap.size < w8.heap.size := by omega
      have hz8_3 : w4.heap.size + 1 < w8.heap.size := by omega
      have B8 : Below W.heap.size W w8 := Below.trans (by repeat (first | exact B7 | refine Below.alloc ?_ (by first | omega | (simp; done) | (simp; omega)) _)) (hb8.mono (by first | omega | (simp; done) | (simp; omega)))
      go_wp2_with fail
      refine (known12_any _).mono ?_
      rintro e w9 ⟨rfl, hb9⟩
      obtain ⟨hc9, hf9⟩ := bcell hb9
      have sz9 := hb9.size
      try simp only [World.size_alloc] at sz9
      have hz9_0 : W.heap.size < w9.heap.size := by omega
      have hz9_1 : w2.heap.size < w9.heap.size := by omega
      have hz9_2 : w4.heap.size < w9.heap.size := by omega
      have hz9_3 : w4.heap.size + 1 < w9.heap.size := by omega
      have B9 : Below W.heap.size W w9 := Below.trans (by repeat (first | exact B8 | refine Below.alloc ?_ (by first | omega | (simp; done) | (simp; omega)) _)) (hb9.mono (by first | omega | (simp; done) | (simp; omega)))
      go_wp2_with fail
      go_ret
      exact ⟨rfl, B9⟩
  · cases c
    · go_enter Try.func7, Try.ntmps7
      go_wp2_with fail
      refine (wremove_any _ _ _ _ _ _ _ _).mono ?_
      rintro e w1 ⟨rfl, hb1⟩
      obtain ⟨hc1, hf1⟩ := bcell hb1
      have sz1 := hb1.size
      try simp only [World.size_alloc] at sz1
      have hz1_0 : W.heap.size < w1.heap.size := by omega
      have B1 : Below W.heap.size W w1 := Below.trans (by repeat (first | exact Below.refl _ _ | refine Below.alloc ?_ (by first | omega | (simp; done) | (simp; omega)) _)) (hb1.mono (by first | omega | (simp; done) | (simp; omega)))
      go_wp2_with fail
      refine (wremove_any _ _ _ _ _ _ _ _).mono ?_
      rintro e w2 ⟨rfl, hb2⟩
      obtain ⟨hc2, hf2⟩ := bcell hb2
      have sz2 := hb2.size
      try simp only [World.size_alloc] at sz2
      have hz2_0 : W.heap.size < w2.heap.size := by omega
      have B2 : Below W.heap.size W w2 := Below.trans (by repeat (first | exact B1 | refine Below.alloc ?_ (by first | omega | (simp; done) | (simp; omega)) _)) (hb2.mono (by first | omega | (simp; done) | (simp; omega)))
      go_wp2_with fail
      go_wp2_with fail
      refine (wremove_any _ _ _ _ _ _ _ _).mono ?_
      rintro e w3 ⟨rfl, hb3⟩
      obtain ⟨hc3, hf3⟩ := bcell hb3
      have sz3 := hb3.size
      try simp only [World.size_alloc] at sz3
      have hz3_0 : W.heap.size < w3.heap.size := by omega
      have hz3_1 : w2.heap.size < w3.heap.size := by omega
      have B3 : Below W.heap.size W w3 := Below.trans (by repeat (first | exact B2 | refine Below.alloc ?_ (by first | omega | (simp; done) | (simp; omega)) _)) (hb3.mono (by first | omega | (simp; done) | (simp; omega)))
      have hy0 : W.heap.size < w3.heap.size + 1 := by omega
      go_wp2_with fail
      refine (wremove_any _ _ _ _ _ _ _ _).mono ?_
      rintro e w4 ⟨rfl, hb4⟩
      rw [two]
      obtain ⟨hc4, hf4⟩ := bcell hb4
      have sz4 := hb4.size
      try simp only [World.size_alloc] at sz4
      have hz4_0 : W.heap.size < w4.heap.size := by omega
      have hz4_1 : w2.heap.size < w4.heap.size := by omega
      have hz4_2 : w3.heap.size < w4.heap.size := by omega
      have hz4_3 : w3.heap.size + 1 < w4.heap.size := by omega
      have B4 : Below W.heap.size W w4 := Below.trans (by repeat (first | exact B3 | refine Below.alloc ?_ (by first | omega | (simp; done) | (simp; omega)) _)) (hb4.mono (by first | omega | (simp; done) | (simp; omega)))
      go_wp2_with fail
      refine (wremove_any _ _ _ _ _ _ _ _).mono ?_
      rintro e w5 ⟨rfl, hb5⟩
      rw [open_]
      obtain ⟨hc5, hf5⟩ := bcell hb5
      have sz5 := hb5.size
      try simp only [World.size_alloc] at sz5
      have hz5_0 : W.heap.size < w5.heap.size := by omega
      have hz5_1 : w2.heap.size < w5.heap.size := by omega
      have hz5_2 : w3.heap.size < w5.heap.size := by omega
      have hz5_3 : w3.heap.size + 1 < w5.heap.size := by omega
      have B5 : Below W.heap.size W w5 := Below.trans (by repeat (first | exact B4 | refine Below.alloc ?_ (by first | omega | (simp; done) | (simp; omega)) _)) (hb5.mono (by first | omega | (simp; done) | (simp; omega)))
      go_wp2_with fail
      refine (wwrite_any _ _ _ _ _ _ _).mono ?_
      rintro e w6 ⟨rfl, hb6⟩
      rw [show writeOf 1 false = 0 from rfl]
      obtain ⟨hc6, hf6⟩ := bcell hb6
      have sz6 := hb6.size
      try simp only [World.size_alloc] at sz6
      have hz6_0 : W.heap.size < w6.heap.size := by omega
      have hz6_1 : w2.heap.size < w6.heap.size := by omega
      have hz6_2 : w3.heap.size < w6.heap.size := by omega
      have hz6_3 : w3.heap.size + 1 < w6.heap.size := by omega
      have B6 : Below W.heap.size W w6 := Below.trans (by repeat (first | exact B5 | refine Below.alloc ?_ (by first | omega | (simp; done) | (simp; omega)) _)) (hb6.mono (by first | omega | (simp; done) | (simp; omega)))
      go_wp2_with fail
      refine (known12_any _).mono ?_
      rintro e w7 ⟨rfl, hb7⟩
      obtain ⟨hc7, hf7⟩ := bcell hb7
      have sz7 := hb7.size
      try simp only [World.size_alloc] at sz7
      have hz7_0 : W.heap.size < w7.heap.size := by omega
      have hz7_1 : w2.heap.size < w7.heap.size := by omega
      have hz7_2 : w3.heap.size < w7.heap.size := by omega
      have hz7_3 : w3.heap.size + 1 < w7.heap.size := by omega
      have B7 : Below W.heap.size W w7 := Below.trans (by repeat (first | exact B6 | refine Below.alloc ?_ (by first | omega | (simp; done) | (simp; omega)) _)) (hb7.mono (by first | omega | (simp; done) | (simp; omega)))
      go_wp2_with fail
      go_ret
      exact ⟨rfl, B7⟩
    · go_enter Try.func7, Try.ntmps7
      go_wp2_with fail
      refine (wremove_any _ _ _ _ _ _ _ _).mono ?_
      rintro e w1 ⟨rfl, hb1⟩
      obtain ⟨hc1, hf1⟩ := bcell hb1
      have sz1 := hb1.size
      try simp only [World.size_alloc] at sz1
      have hz1_0 : W.heap.size < w1.heap.size := by omega
      have B1 : Below W.heap.size W w1 := Below.trans (by repeat (first | exact Below.refl _ _ | refine Below.alloc ?_ (by first | omega | (simp; done) | (simp; omega)) _)) (hb1.mono (by first | omega | (simp; done) | (simp; omega)))
      go_wp2_with fail
      refine (wremove_any _ _ _ _ _ _ _ _).mono ?_
      rintro e w2 ⟨rfl, hb2⟩
      obtain ⟨hc2, hf2⟩ := bcell hb2
      have sz2 := hb2.size
      try simp only [World.size_alloc] at sz2
      have hz2_0 : W.heap.size < w2.heap.size := by omega
      have B2 : Below W.heap.size W w2 := Below.trans (by repeat (first | exact B1 | refine Below.alloc ?_ (by first | omega | (simp; done) | (simp; omega)) _)) (hb2.mono (by first | omega | (simp; done) | (simp; omega)))
      go_wp2_with fail
      go_wp2_with fail
      refine (wremove_any _ _ _ _ _ _ _ _).mono ?_
      rintro e w3 ⟨rfl, hb3⟩
      obtain ⟨hc3, hf3⟩ := bcell hb3
      have sz3 := hb3.size
      try simp only [World.size_alloc] at sz3
      have hz3_0 : W.heap.size < w3.heap.size := by omega
      have hz3_1 : w2.heap.size < w3.heap.size := by omega
      have B3 : Below W.heap.size W w3 := Below.trans (by repeat (first | exact B2 | refine Below.alloc ?_ (by first | omega | (simp; done) | (simp; omega)) _)) (hb3.mono (by first | omega | (simp; done) | (simp; omega)))
      have hy0 : W.heap.size < w3.heap.size + 1 := by omega
      go_wp2_with fail
      refine (wremove_any _ _ _ _ _ _ _ _).mono ?_
      rintro e w4 ⟨rfl, hb4⟩
      rw [two]
      obtain ⟨hc4, hf4⟩ := bcell hb4
      have sz4 := hb4.size
      try simp only [World.size_alloc] at sz4
      have hz4_0 : W.heap.size < w4.heap.size := by omega
      have hz4_1 : w2.heap.size < w4.heap.size := by omega
      have hz4_2 : w3.heap.size < w4.heap.size := by omega
      have hz4_3 : w3.heap.size + 1 < w4.heap.size := by omega
      have B4 : Below W.heap.size W w4 := Below.trans (by repeat (first | exact B3 | refine Below.alloc ?_ (by first | omega | (simp; done) | (simp; omega)) _)) (hb4.mono (by first | omega | (simp; done) | (simp; omega)))
      go_wp2_with fail
      refine (wremove_any _ _ _ _ _ _ _ _).mono ?_
      rintro e w5 ⟨rfl, hb5⟩
      rw [open_]
      obtain ⟨hc5, hf5⟩ := bcell hb5
      have sz5 := hb5.size
      try simp only [World.size_alloc] at sz5
      have hz5_0 : W.heap.size < w5.heap.size := by omega
      have hz5_1 : w2.heap.size < w5.heap.size := by omega
      have hz5_2 : w3.heap.size < w5.heap.size := by omega
      have hz5_3 : w3.heap.size + 1 < w5.heap.size := by omega
      have B5 : Below W.heap.size W w5 := Below.trans (by repeat (first | exact B4 | refine Below.alloc ?_ (by first | omega | (simp; done) | (simp; omega)) _)) (hb5.mono (by first | omega | (simp; done) | (simp; omega)))
      go_wp2_with fail
      refine (wwrite_any _ _ _ _ _ _ _).mono ?_
      rintro e w6 ⟨rfl, hb6⟩
      rw [show writeOf 1 false = 0 from rfl]
      obtain ⟨hc6, hf6⟩ := bcell hb6
      have sz6 := hb6.size
      try simp only [World.size_alloc] at sz6
      have hz6_0 : W.heap.size < w6.heap.size := by omega
      have hz6_1 : w2.heap.size < w6.heap.size := by omega
      have hz6_2 : w3.heap.size < w6.heap.size := by omega
      have hz6_3 : w3.heap.size + 1 < w6.heap.size := by omega
      have B6 : Below W.heap.size W w6 := Below.trans (by repeat (first | exact B5 | refine Below.alloc ?_ (by first | omega | (simp; done) | (simp; omega)) _)) (hb6.mono (by first | omega | (simp; done) | (simp; omega)))
      go_wp2_with fail
      refine (wwrite_any _ _ _ _ _ _ _).mono ?_
      rintro e w7 ⟨rfl, hb7⟩
      rw [show writeOf 1 true = 27 from rfl]
      obtain ⟨hc7, hf7⟩ := bcell hb7
      have sz7 := hb7.size
      try simp only [World.size_alloc] at sz7
      have hz7_0 : W.heap.size < w7.heap.size := by omega
      have hz7_1 : w2.heap.size < w7.heap.size := by omega
      have hz7_2 : w3.heap.size < w7.heap.size := by omega
      have hz7_3 : w3.heap.size + 1 < w7.heap.size := by omega
      have B7 : Below W.heap.size W w7 := Below.trans (by repeat (first | exact B6 | refine Below.alloc ?_ (by first | omega | (simp; done) | (simp; omega)) _)) (hb7.mono (by first | omega | (simp; done) | (simp; omega)))
      go_wp2_with fail
      refine (known12_any _).mono ?_
      rintro e w8 ⟨rfl, hb8⟩
      obtain ⟨hc8, hf8⟩ := bcell hb8
      have sz8 := hb8.size
      try simp only [World.size_alloc] at sz8
      have hz8_0 : W.heap.size < w8.heap.size := by omega
      have hz8_1 : w2.heap.size < w8.heap.size := by omega
      have hz8_2 : w3.heap.size < w8.heap.size := by omega
      have hz8_3 : w3.heap.size + 1 < w8.heap.size := by omega
      have B8 : Below W.heap.size W w8 := Below.trans (by repeat (first | exact B7 | refine Below.alloc ?_ (by first | omega | (simp; done) | (simp; omega)) _)) (hb8.mono (by first | omega | (simp; done) | (simp; omega)))
      go_wp2_with fail
      go_ret
      exact ⟨rfl, B8⟩
  · cases c
    · go_enter Try.func7, Try.ntmps7
      go_wp2_with fail
      refine (wremove_any _ _ _ _ _ _ _ _).mono ?_
      rintro e w1 ⟨rfl, hb1⟩
      obtain ⟨hc1, hf1⟩ := bcell hb1
      have sz1 := hb1.size
      try simp only [World.size_alloc] at sz1
      have hz1_0 : W.heap.size < w1.heap.size := by omega
      have B1 : Below W.heap.size W w1 := Below.trans (by repeat (first | exact Below.refl _ _ | refine Below.alloc ?_ (by first | omega | (simp; done) | (simp; omega)) _)) (hb1.mono (by first | omega | (simp; done) | (simp; omega)))
      go_wp2_with fail
      go_wp2_with fail
      refine (wremove_any _ _ _ _ _ _ _ _).mono ?_
      rintro e w2 ⟨rfl, hb2⟩
      obtain ⟨hc2, hf2⟩ := bcell hb2
      have sz2 := hb2.size
      try simp only [World.size_alloc] at sz2
      have hz2_0 : W.heap.size < w2.heap.size := by omega
      have hz2_1 : w1.heap.size < w2.heap.size := by omega
      have B2 : Below W.heap.size W w2 := Below.trans (by repeat (first | exact B1 | refine Below.alloc ?_ (by first | omega | (simp; done) | (simp; omega)) _)) (hb2.mono (by first | omega | (simp; done) | (simp; omega)))
      have hy0 : W.heap.size < w2.heap.size + 1 := by omega
      go_wp2_with fail
      refine (wremove_any _ _ _ _ _ _ _ _).mono ?_
      rintro e w3 ⟨rfl, hb3⟩
      rw [two]
      obtain ⟨hc3, hf3⟩ := bcell hb3
      have sz3 := hb3.size
      try simp only [World.size_alloc] at sz3
      have hz3_0 : W.heap.size < w3.heap.size := by omega
      have hz3_1 : w1.heap.size < w3.heap.size := by omega
      have hz3_2 : w2.heap.size < w3.heap.size := by omega
      have hz3_3 : w2.heap.size + 1 < w3.heap.size := by omega
      have B3 : Below W.heap.size W w3 := Below.trans (by repeat (first | exact B2 | refine Below.alloc ?_ (by first | omega | (simp; done) | (simp; omega)) _)) (hb3.mono (by first | omega | (simp; done) | (simp; omega)))
      go_wp2_with fail
      refine (wremove_any _ _ _ _ _ _ _ _).mono ?_
      rintro e w4 ⟨rfl, hb4⟩
      rw [open_]
      obtain ⟨hc4, hf4⟩ := bcell hb4
      have sz4 := hb4.size
      try simp only [World.size_alloc] at sz4
      have hz4_0 : W.heap.size < w4.heap.size := by omega
      have hz4_1 : w1.heap.size < w4.heap.size := by omega
      have hz4_2 : w2.heap.size < w4.heap.size := by omega
      have hz4_3 : w2.heap.size + 1 < w4.heap.size := by omega
      have B4 : Below W.heap.size W w4 := Below.trans (by repeat (first | exact B3 | refine Below.alloc ?_ (by first | omega | (simp; done) | (simp; omega)) _)) (hb4.mono (by first | omega | (simp; done) | (simp; omega)))
      go_wp2_with fail
      refine (wwrite_any _ _ _ _ _ _ _).mono ?_
      rintro e w5 ⟨rfl, hb5⟩
      rw [show writeOf 1 false = 0 from rfl]
      obtain ⟨hc5, hf5⟩ := bcell hb5
      have sz5 := hb5.size
      try simp only [World.size_alloc] at sz5
      have hz5_0 : W.heap.size < w5.heap.size := by omega
      have hz5_1 : w1.heap.size < w5.heap.size := by omega
      have hz5_2 : w2.heap.size < w5.heap.size := by omega
      have hz5_3 : w2.heap.size + 1 < w5.heap.size := by omega
      have B5 : Below W.heap.size W w5 := Below.trans (by repeat (first | exact B4 | refine Below.alloc ?_ (by first | omega | (simp; done) | (simp; omega)) _)) (hb5.mono (by first | omega | (simp; done) | (simp; omega)))
      go_wp2_with fail
      refine (known12_any _).mono ?_
      rintro e w6 ⟨rfl, hb6⟩
      obtain ⟨hc6, hf6⟩ := bcell hb6
      have sz6 := hb6.size
      try simp only [World.size_alloc] at sz6
      have hz6_0 : W.heap.size < w6.heap.size := by omega
      have hz6_1 : w1.heap.size < w6.heap.size := by omega
      have hz6_2 : w2.heap.size < w6.heap.size := by omega
      have hz6_3 : w2.heap.size + 1 < w6.heap.size := by omega
      have B6 : Below W.heap.size W w6 := Below.trans (by repeat (first | exact B5 | refine Below.alloc ?_ (by first | omega | (simp; done) | (simp; omega)) _)) (hb6.mono (by first | omega | (simp; done) | (simp; omega)))
      go_wp2_with fail
      go_ret
      exact ⟨rfl, B6⟩
    · go_enter Try.func7, Try.ntmps7
      go_wp2_with fail
      refine (wremove_any _ _ _ _ _ _ _ _).mono ?_
      rintro e w1 ⟨rfl, hb1⟩
      obtain ⟨hc1, hf1⟩ := bcell hb1
      have sz1 := hb1.size
      try simp only [World.size_alloc] at sz1
      have hz1_0 : W.heap.size < w1.heap.size := by omega
      have B1 : Below W.heap.size W w1 := Below.trans (by repeat (first | exact Below.refl _ _ | refine Below.alloc ?_ (by first | omega | (simp; done) | (simp; omega)) _)) (hb1.mono (by first | omega | (simp; done) | (simp; omega)))
      go_wp2_with fail
      go_wp2_with fail
      refine (wremove_any _ _ _ _ _ _ _ _).mono ?_
      rintro e w2 ⟨rfl, hb2⟩
      obtain ⟨hc2, hf2⟩ := bcell hb2
      have sz2 := hb2.size
      try simp only [World.size_alloc] at sz2
      have hz2_0 : W.heap.size < w2.heap.size := by omega
      have hz2_1 : w1.heap.size < w2.heap.size := by omega
      have B2 : Below W.heap.size W w2 := Below.trans (by repeat (first | exact B1 | refine Below.alloc ?_ (by first | omega | (simp; done) | (simp; omega)) _)) (hb2.mono (by first | omega | (simp; done) | (simp; omega)))
      have hy0 : W.heap.size < w2.heap.size + 1 := by omega
      go_wp2_with fail
      refine (wremove_any _ _ _ _ _ _ _ _).mono ?_
      rintro e w3 ⟨rfl, hb3⟩
      rw [two]
      obtain ⟨hc3, hf3⟩ := bcell hb3
      have sz3 := hb3.size
      try simp only [World.size_alloc] at sz3
      have hz3_0 : W.heap.size < w3.heap.size := by omega
      have hz3_1 : w1.heap.size < w3.heap.size := by omega
      have hz3_2 : w2.heap.size < w3.heap.size := by omega
      have hz3_3 : w2.heap.size + 1 < w3.heap.size := by omega
      have B3 : Below W.heap.size W w3 := Below.trans (by repeat (first | exact B2 | refine Below.alloc ?_ (by first | omega | (simp; done) | (simp; omega)) _)) (hb3.mono (by first | omega | (simp; done) | (simp; omega)))
      go_wp2_with fail
      refine (wremove_any _ _ _ _ _ _ _ _).mono ?_
      rintro e w4 ⟨rfl, hb4⟩
      rw [open_]
      obtain ⟨hc4, hf4⟩ := bcell hb4
      have sz4 := hb4.size
      try simp only [World.size_alloc] at sz4
      have hz4_0 : W.heap.size < w4.heap.size := by omega
      have hz4_1 : w1.heap.size < w4.heap.size := by omega
      have hz4_2 : w2.heap.size < w4.heap.size := by omega
      have hz4_3 : w2.heap.size + 1 < w4.heap.size := by omega
      have B4 : Below W.heap.size W w4 := Below.trans (by repeat (first | exact B3 | refine Below.alloc ?_ (by first | omega | (simp; done) | (simp; omega)) _)) (hb4.mono (by first | omega | (simp; done) | (simp; omega)))
      go_wp2_with fail
      refine (wwrite_any _ _ _ _ _ _ _).mono ?_
      rintro e w5 ⟨rfl, hb5⟩
      rw [show writeOf 1 false = 0 from rfl]
      obtain ⟨hc5, hf5⟩ := bcell hb5
      have sz5 := hb5.size
      try simp only [World.size_alloc] at sz5
      have hz5_0 : W.heap.size < w5.heap.size := by omega
      have hz5_1 : w1.heap.size < w5.heap.size := by omega
      have hz5_2 : w2.heap.size < w5.heap.size := by omega
      have hz5_3 : w2.heap.size + 1 < w5.heap.size := by omega
      have B5 : Below W.heap.size W w5 := Below.trans (by repeat (first | exact B4 | refine Below.alloc ?_ (by first | omega | (simp; done) | (simp; omega)) _)) (hb5.mono (by first | omega | (simp; done) | (simp; omega)))
      go_wp2_with fail
      refine (wwrite_any _ _ _ _ _ _ _).mono ?_
      rintro e w6 ⟨rfl, hb6⟩
      rw [show writeOf 1 true = 27 from rfl]
      obtain ⟨hc6, hf6⟩ := bcell hb6
      have sz6 := hb6.size
      try simp only [World.size_alloc] at sz6
      have hz6_0 : W.heap.size < w6.heap.size := by omega
      have hz6_1 : w1.heap.size < w6.heap.size := by omega
      have hz6_2 : w2.heap.size < w6.heap.size := by omega
      have hz6_3 : w2.heap.size + 1 < w6.heap.size := by omega
      have B6 : Below W.heap.size W w6 := Below.trans (by repeat (first | exact B5 | refine Below.alloc ?_ (by first | omega | (simp; done) | (simp; omega)) _)) (hb6.mono (by first | omega | (simp; done) | (simp; omega)))
      go_wp2_with fail
      refine (known12_any _).mono ?_
      rintro e w7 ⟨rfl, hb7⟩
      obtain ⟨hc7, hf7⟩ := bcell hb7
      have sz7 := hb7.size
      try simp only [World.size_alloc] at sz7
      have hz7_0 : W.heap.size < w7.heap.size := by omega
      have hz7_1 : w1.heap.size < w7.heap.size := by omega
      have hz7_2 : w2.heap.size < w7.heap.size := by omega
      have hz7_3 : w2.heap.size + 1 < w7.heap.size := by omega
      have B7 : Below W.heap.size W w7 := Below.trans (by repeat (first | exact B6 | refine Below.alloc ?_ (by first | omega | (simp; done) | (simp; omega)) _)) (hb7.mono (by first | omega | (simp; done) | (simp; omega)))
      go_wp2_with fail
      go_ret
      exact ⟨rfl, B7⟩
end Go.Proofs.Ytinnebeielldeaa.wormLater
