/- A tree of one file: what the calls say of it. -/
import Derived.Test.YtbapdoicejakhaaTreeKnown
import Derived.Test.YtbapdoicejakhaaCut
import Derived.Test.YtbapdoicejakhaaArgsO
namespace Go.Proofs.Ytbapdoicejakhaa
open Go.ChangeShapes Go.WideShapes Go.ChangeAt Go.RowKit
set_option linter.unusedVariables false
set_option linter.unusedSimpArgs false

def stF (b : List UInt8) (c : Bool) (t : Int) : TrM := [(0, { freshM 2 with names := [([102], 1)] }), (1, ⟨1, 1, t, c, b, []⟩)]
theorem stF_make : makeM newM [[102]] 1 = ((1, 0), stF [] false 0) := by kernel_rfl
theorem stF_get (b : List UInt8) (c : Bool) (t : Int) : aget 1 (stF b c t) = some ⟨1, 1, t, c, b, []⟩ := rfl
theorem stF_mod (b : List UInt8) (c : Bool) (t : Int) (f : ItM → ItM) : amod 1 f (stF b c t) = [(0, { freshM 2 with names := [([102], 1)] }), (1, f ⟨1, 1, t, c, b, []⟩)] := rfl
theorem stF_append (b x : List UInt8) (t : Int) (h : b.length + x.length ≤ 4096) : appendM (stF b false t) 1 x = (0, stF (b ++ x) false t) := by
  have e : appendE (stF b false t) 1 x = 0 := by
    unfold appendE
    rw [stF_get]
    simp only [show ¬ ((1 : Int) = 2) by decide, if_false, Bool.false_eq_true]
    rw [if_neg (by omega)]
  unfold appendM
  rw [e]
  simp only [if_pos]
  rw [stF_mod]
  rfl
theorem stF_append_no (b x : List UInt8) (t : Int) : appendM (stF b true t) 1 x = (27, stF b true t) := by
  unfold appendM appendE
  rw [stF_get]
  rfl
theorem stF_seal (b : List UInt8) (t u : Int) (h : u ≤ 1099511627776) : sealM (stF b false t) 1 u = (0, stF b true u) := by
  have e : sealE (stF b false t) 1 u = 0 := by
    unfold sealE
    rw [stF_get]
    simp only [show ¬ ((1 : Int) = 2) by decide, if_false, Bool.false_eq_true]
    rw [if_neg (by omega)]
  unfold sealM
  rw [e]
  simp only [if_pos]
  rw [stF_mod]
  rfl
theorem stF_seal_no (b : List UInt8) (t u : Int) : sealM (stF b true t) 1 u = (27, stF b true t) := by
  unfold sealM sealE
  rw [stF_get]
  rfl
theorem stF_drop_no (b : List UInt8) (t : Int) : dropE (stF b true t) 1 = 27 := rfl
theorem stF_keep_busy (b : List UInt8) (t u : Int) : keepM (stF b false t) 1 u = (25, stF b false t) := by
  unfold keepM keepE
  rw [stF_get]
  rfl
theorem stF_keepE (b : List UInt8) (t u : Int) : keepE (stF b true t) 1 u = if u < t then 28 else if 1099511627776 < u then 1 else 0 := by
  unfold keepE
  rw [stF_get]
  rfl
theorem stF_keep (b : List UInt8) (t u : Int) (h : t ≤ u) (h2 : u ≤ 1099511627776) : keepM (stF b true t) 1 u = (0, stF b true u) := by
  unfold keepM
  rw [stF_keepE, if_neg (by omega), if_neg (by omega)]
  simp only [if_pos]
  rw [stF_mod]
  rfl
theorem stF_keep_less (b : List UInt8) (t u : Int) (h : u < t) : keepM (stF b true t) 1 u = (28, stF b true t) := by
  unfold keepM
  rw [stF_keepE, if_pos h, if_neg (by decide)]
theorem stF_keep_far (b : List UInt8) (t u : Int) (h : t ≤ u) (h2 : 1099511627776 < u) : keepM (stF b true t) 1 u = (1, stF b true t) := by
  unfold keepM
  rw [stF_keepE, if_neg (by omega), if_pos h2, if_neg (by decide)]
theorem stF_node (b : List UInt8) (c : Bool) (t : Int) : nodeM (stF b c t) 1 = .agg #[.int .i64 1, .int .i64 1, .int .i64 1, .int .i64 b.length, .int .u64 t, .bool c] := rfl
theorem stF_some (b : List UInt8) (c : Bool) (t : Int) : (aget 1 (stF b c t)).isSome = true := rfl
theorem stF_read (b : List UInt8) (c : Bool) (t : Int) (k n : Int) (h : 0 ≤ k) (h2 : 0 ≤ n) : readE (stF b c t) 1 k n = 0 ∧ readB (stF b c t) 1 k n = (b.drop k.toNat).take n.toNat := by
  unfold readE readB partE partB
  rw [stF_get]
  simp only [show ¬ ((1 : Int) = 2) by decide, if_false]
  rw [if_neg (by omega), if_neg (by omega)]
  exact ⟨rfl, rfl⟩
theorem wf1 : (Lit.int .i64 1).wf = true := rfl
theorem wf_u64 {a : Int} (h : (Lit.int .u64 a).wf = true) : 0 ≤ a ∧ a ≤ 18446744073709551615 := by
  simp [Lit.wf, IntKind.min, IntKind.max, IntKind.signed, IntKind.bits] at h
  omega
section
variable {W w : World} {P : Nat → Prop} {p : Nat}
theorem sf_append {S : Nat → Prop} {b : List UInt8} {t : Int} (h : TreeIn W P w p (stF b false t)) (a : Option Addr) (l c : Nat) (x : List UInt8) (hr : RowAt S w a l (x.map bv)) (hl : b.length + x.length ≤ 4096) :
    Calls Try.prog 8 #[ptr p, .int .i64 1, .slice a l c] w (InTurned W P w p (stF (b ++ x) false t) (.int .i64 0)) := by
  have hx : x.length = l := by have := hr.length; simpa using this
  have := in_append h 1 a l c x wf1 hr (by omega)
  rw [stF_append b x t hl] at this
  exact this
theorem sf_append_no {S : Nat → Prop} {b : List UInt8} {t : Int} (h : TreeIn W P w p (stF b true t)) (a : Option Addr) (l c : Nat) (x : List UInt8) (hr : RowAt S w a l (x.map bv)) (hl : l ≤ 1000) :
    Calls Try.prog 8 #[ptr p, .int .i64 1, .slice a l c] w (InTurned W P w p (stF b true t) (.int .i64 27)) := by
  have := in_append h 1 a l c x wf1 hr (by omega)
  rw [stF_append_no b x t] at this
  exact this
theorem sf_seal {b : List UInt8} {t : Int} (h : TreeIn W P w p (stF b false t)) (u : Int) (h0 : 0 ≤ u) (h1 : u ≤ 1099511627776) : Calls Try.prog 15 #[ptr p, .int .i64 1, .int .u64 u] w (InTurned W P w p (stF b true u) (.int .i64 0)) := by
  have := in_seal h 1 u wf1 h0 (by omega)
  rw [stF_seal b t u h1] at this
  exact this
theorem sf_seal_no {b : List UInt8} {t : Int} (h : TreeIn W P w p (stF b true t)) (u : Int) (h0 : 0 ≤ u) (h1 : u ≤ 1099511627776) : Calls Try.prog 15 #[ptr p, .int .i64 1, .int .u64 u] w (InTurned W P w p (stF b true t) (.int .i64 27)) := by
  have := in_seal h 1 u wf1 h0 (by omega)
  rw [stF_seal_no b t u] at this
  exact this
theorem sf_drop_no {b : List UInt8} {t : Int} (h : TreeIn W P w p (stF b true t)) : Calls Try.prog 16 #[ptr p, .int .i64 1] w (InTurned W P w p (stF b true t) (.int .i64 27)) := by
  have := in_drop_err h 1 (by rw [stF_drop_no]; decide) wf1
  rw [stF_drop_no b t] at this
  exact this
theorem sf_keep_busy {b : List UInt8} {t : Int} (h : TreeIn W P w p (stF b false t)) (u : Int) (h0 : 0 ≤ u) (h1 : u ≤ 1099511627776) : Calls Try.prog 14 #[ptr p, .int .i64 1, .int .u64 u] w (InTurned W P w p (stF b false t) (.int .i64 25)) := by
  have := in_keep h 1 u wf1 h0 (by omega)
  rw [stF_keep_busy b t u] at this
  exact this
theorem sf_keep {b : List UInt8} {t : Int} (h : TreeIn W P w p (stF b true t)) (u : Int) (h0 : 0 ≤ u) (h1 : t ≤ u) (h2 : u ≤ 1099511627776) : Calls Try.prog 14 #[ptr p, .int .i64 1, .int .u64 u] w (InTurned W P w p (stF b true u) (.int .i64 0)) := by
  have := in_keep h 1 u wf1 h0 (by omega)
  rw [stF_keep b t u h1 h2] at this
  exact this
theorem sf_keep_less {b : List UInt8} {t : Int} (h : TreeIn W P w p (stF b true t)) (u : Int) (h0 : 0 ≤ u) (h1 : u < t) (h2 : u ≤ 1099511627776) : Calls Try.prog 14 #[ptr p, .int .i64 1, .int .u64 u] w (InTurned W P w p (stF b true t) (.int .i64 28)) := by
  have := in_keep h 1 u wf1 h0 (by omega)
  rw [stF_keep_less b t u h1] at this
  exact this
theorem sf_keep_far {b : List UInt8} {t : Int} (h : TreeIn W P w p (stF b true t)) (h1 : t ≤ 1099511627776) : Calls Try.prog 14 #[ptr p, .int .i64 1, .int .u64 1099511627777] w (InTurned W P w p (stF b true t) (.int .i64 1)) := by
  have := in_keep h 1 1099511627777 wf1 (by omega) (by omega)
  rw [stF_keep_far b t _ (by omega) (by omega)] at this
  exact this
theorem sf_node {b : List UInt8} {c : Bool} {t : Int} (h : TreeIn W P w p (stF b c t)) : Calls Try.prog 12 #[ptr p, .int .i64 1] w fun e w' => e = .returned (.tuple #[.agg #[.int .i64 1, .int .i64 1, .int .i64 1, .int .i64 b.length, .int .u64 t, .bool c], .bool true]) ∧ Below w.heap.size w w' := by
  have := in_node h 1 wf1
  rw [stF_node, stF_some] at this
  exact this
theorem sf_read {b : List UInt8} {c : Bool} {t : Int} (h : TreeIn W P w p (stF b c t)) (k n : Int) (h0 : 0 ≤ k) (h1 : 0 ≤ n) (hk : k ≤ 1000000) (hn : n ≤ 1000000) : Calls Try.prog 11 #[ptr p, .int .i64 1, .int .i64 k, .int .i64 n] w (RetPart w ((b.drop k.toNat).take n.toNat) 0) := by
  have hw : ∀ z : Int, 0 ≤ z → z ≤ 1000000 → (Lit.int .i64 z).wf = true := fun z h1 h2 => by
    simp [Lit.wf, IntKind.min, IntKind.max, IntKind.signed, IntKind.bits]; omega
  have := in_read h 1 k n wf1 (hw k h0 hk) (hw n h1 hn)
  rw [(stF_read b c t k n h0 h1).1, (stF_read b c t k n h0 h1).2] at this
  exact this
theorem sf_make (h : TreeIn W P w p newM) : Calls Try.prog 6 #[ptr p, .slice (some ⟨w.heap.size, 0, none⟩) 1 1, .int .i64 1] (w.alloc (.cells #[.string ⟨#[102]⟩] 9)) fun e w' => InTurned W P (w.alloc (.cells #[.string ⟨#[102]⟩] 9)) p (stF [] false 0) (.tuple #[.int .i64 1, .int .i64 0]) e w' := by
  have := in_make (h.grow (wall w (.cells #[.string ⟨#[102]⟩] 9))) (some ⟨w.heap.size, 0, none⟩) 1 1 [[102]] 1 (strs_lit (w := w) (vs := [.string ⟨#[102]⟩]) 9 rfl rfl (by simp) (by simp)) (Nat.le_refl _) (by omega)
  rw [stF_make] at this
  exact this
end
end Go.Proofs.Ytbapdoicejakhaa
