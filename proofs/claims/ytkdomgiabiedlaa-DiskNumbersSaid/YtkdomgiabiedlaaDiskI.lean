/- disk: New's refusal; Of. -/
import Derived.Test.YtkdomgiabiedlaaDiskH
namespace Go.Proofs.Ytkdomgiabiedlaa
open Go.ChangeShapes Go.WideShapes Go.ChangeAt Go.RowKit
set_option linter.unusedVariables false

theorem dnew_none (n : Int) (h : n < 64 ∨ 4096 < n) (w : World) :
    Calls Try.prog 9 #[.int .i64 n] w fun e w' => e = .returned (.tuple #[.pointer none, .int .i64 1]) ∧ w = w' := by
  rcases h with h | h
  · go_enter Try.func9, Try.ntmps9
    go_wp2
    go_ret2
    exact ⟨rfl, rfl⟩
  · have h' : ¬ n < 64 := by omega
    go_enter Try.func9, Try.ntmps9
    go_wp2
    go_ret2
    exact ⟨rfl, rfl⟩

theorem dof_none (a : Option Addr) (n cap : Nat) (h : n < 64 * 128) (w : World) :
    Calls Try.prog 23 #[.slice a n cap] w fun e w' => e = .returned (.tuple #[.pointer none, .int .i64 1]) ∧ w = w' := by
  have hn := dnew_none ((n / 128 : Nat) : Int) (by omega) w
  have e1 : IntKind.i64.wrap (Int.tdiv (n : Int) 128) = ((n / 128 : Nat) : Int) := by rw [Int.tdiv_eq_ediv_of_nonneg (by omega)]; exact IntWalk.i64_in _ (by omega)
  go_enter Try.func23, Try.ntmps23
  go_wp2_with (go_at_call 9; refine hn.mono ?_; rintro e w' ⟨rfl, rfl⟩)
  go_ret2
  exact ⟨rfl, rfl⟩

/-- A new disk. -/
def NewDisk (w : World) (M : DiskM) (e : Ending) (w' : World) : Prop :=
  ∃ F d sb mb, e = .returned (.tuple #[.pointer (some ⟨d, 0, none⟩), .int .i64 0]) ∧ DiskAt F w' d sb mb [] M ∧ (∀ x, F x → w.heap.size ≤ x) ∧ Below w.heap.size w w'

set_option maxHeartbeats 1000000 in
theorem dof_some (b off n cap : Nat) (bs : List UInt8) (hl : bs.length = n * 128) (h1 : 64 ≤ n) (h2 : n ≤ 4096) (w : World) (hc : ∀ j u, (bs.map bv)[j]? = some u → w.cell? ((⟨b, off, none⟩ : Addr).add j) = some u) (hb : b < w.heap.size) :
    Calls Try.prog 23 #[.slice (some ⟨b, off, none⟩) (n * 128) cap] w (NewDisk w ⟨bs, [], 0⟩) := by
  have hn := dnew_any n h1 h2 w
  have e1 : IntKind.i64.wrap (Int.tdiv ((n : Int) * 128) 128) = (n : Int) := by rw [Int.tdiv_eq_ediv_of_nonneg (by omega), Int.mul_ediv_cancel _ (by omega)]; exact IntWalk.i64_in _ (by omega)
  have e2 : IntKind.i64.wrap (Int.tmod ((n : Int) * 128) 128) = 0 := by rw [Int.tmod_eq_emod_of_nonneg (by omega), Int.mul_emod_left]; rfl
  have e3 : ((n : Int) * 128) / 128 = n := by omega
  have e4 : ((n : Int) * 128) % 128 = 0 := by omega
  go_enter Try.func23, Try.ntmps23
  go_wp2_with fail
  (with_reducible refine hn.mono ?_)
  rintro e w1 ⟨F, d, sb, mb, rfl, hD, hF, hB⟩
  obtain ⟨hc0, hc1, hc2⟩ := head_cells hD
  simp only [List.length_replicate] at hc0
  have hsafe := Lib.hid hD.safe
  have HD := Lib.hid hD
  have hn1 : bs.length = Nat.min (n * 128) (n * 128) := by rw [hl]; show _ = min _ _; omega
  have hn2 : 0 + bs.length ≤ ((List.replicate (n * 128) (0 : UInt8)).map bv).length := by simp; omega
  have hn3 : ∀ j u, (bs.map bv)[j]? = some u → w1.cell? ((⟨b, off, none⟩ : Addr).add j) = some u := fun j u hu => by
    have := hc j u hu
    rw [add_plain] at this ⊢
    rw [(bcell hB).1 _ _ hb]
    exact this
  have HN1 := Lib.hid hn1
  have HN2 := Lib.hid hn2
  clear hn1 hn2 hD hc1 hc2 hn
  have HL := Lib.hid hl
  clear hl
  go_wp2_with (first | (with_reducible refine wpList_copy_v rfl _ _ 22 22 rfl 5 Try.underlying22 Try.size8 (some ⟨b, off, none⟩) sb 0 (n * 128) (n * 128) (n * 128) cap rfl rfl _ 5 hsafe.out bs HN1.out (fun _ => ⟨_, rfl, hn3⟩) HN2.out ?_; intro w2 HS2 hK2 hs2))
  go_ret2
  have hD := HD.out
  have hap := hD.apart
  have hlow := hD.low
  have hsp : splice ((List.replicate (n * 128) (0 : UInt8)).map bv) 0 (bs.map bv) = bs.map bv := by
    unfold splice
    rw [List.drop_eq_nil_of_le (by simp; rw [HL.out]; exact Nat.le_refl _)]
    simp
  refine ⟨F, d, sb, mb, rfl, ?_, hF, ⟨hK2.os.trans hB.os, hK2.tape.trans hB.tape, hK2.output.trans hB.output, Nat.le_trans hB.size hK2.size, fun x hx => ?_⟩⟩
  · refine hD.cleared hK2.size (hK2.block d (hlow _ hD.own.1) hap.1) ?_ (by simp; exact HL.out) (hD.map.kept (hK2.block mb (hlow _ hD.own.2.2) (Ne.symm hap.2.2)))
    rw [HS2.out, hsp]
  · have := hF _ hD.own.2.1
    have := hB.size
    exact (hK2.block x (by omega) (by omega)).trans (hB.block x hx)
end Go.Proofs.Ytkdomgiabiedlaa
