/- disk: a law's own disk, beside rows of the law's that it does not touch. -/
import Derived.Test.YtkdomgiabiedlaaDiskK
import Derived.Test.YtkdomgiabiedlaaConv
import Derived.Test.YtkdomgiabiedlaaKnown5
import Derived.Deep.Draws
namespace Go.Proofs.Ytkdomgiabiedlaa
open Go.ChangeShapes Go.WideShapes Go.ChangeAt Go.RowKit
set_option linter.unusedVariables false

theorem below_drewq {B : Nat} {a w : World} (h : Below B a w) (n : Nat) : Below B a (w.drewN n) := h.trans ⟨rfl, rfl, rfl, Nat.le_refl _, fun _ _ => rfl⟩
/-- The disk's own blocks are new since W, and none of P. -/
structure DiskIn (W : World) (P : Nat → Prop) (w : World) (d sb mb : Nat) (M : DiskM) : Prop where
  at_ : ∃ F l, DiskAt F w d sb mb l M ∧ ∀ x, F x → W.heap.size ≤ x ∧ ¬ P x
  below : Below W.heap.size W w
  low : ∀ x, P x → x < w.heap.size
def Wild (W : World) (P : Nat → Prop) (x : Nat) : Prop := W.heap.size ≤ x ∧ ¬ P x
theorem RowAt.keeps {S fp : Nat → Prop} {w w' : World} {a : Option Addr} {len : Nat} {vs : List Value} (h : RowAt S w a len vs) (hk : Keeps fp w w') (hn : ∀ b, S b → ¬ fp b) : RowAt S w' a len vs :=
  h.kept hk.size fun b hb hbw => hk.block b hbw (hn b hb)
theorem DiskIn.grow {W w w' : World} {P : Nat → Prop} {d sb mb : Nat} {M : DiskM} (h : DiskIn W P w d sb mb M) (hb : Below w.heap.size w w') : DiskIn W P w' d sb mb M := by
  obtain ⟨F, l, hD, hF⟩ := h.at_
  exact ⟨⟨F, l, hD.below hb (Nat.le_refl _), hF⟩, h.below.trans (hb.mono h.below.size), fun x hx => Nat.lt_of_lt_of_le (h.low x hx) hb.size⟩
/-- What is new is shielded from now on. -/
theorem DiskIn.shield {W w w' : World} {P : Nat → Prop} {d sb mb : Nat} {M : DiskM} (h : DiskIn W P w d sb mb M) (hb : Below w.heap.size w w') : DiskIn W (fun x => P x ∨ (w.heap.size ≤ x ∧ x < w'.heap.size)) w' d sb mb M := by
  have h1 := h.grow hb
  obtain ⟨F, l, hD, hF⟩ := h.at_
  refine ⟨⟨F, l, hD.below hb (Nat.le_refl _), fun x hx => ⟨(hF x hx).1, fun hp => ?_⟩⟩, h1.below, fun x hx => ?_⟩
  · rcases hp with hp | hp
    · exact (hF x hx).2 hp
    · have := hD.low x hx; omega
  · rcases hx with hx | hx
    · exact h1.low x hx
    · exact hx.2
theorem DiskIn.of_new {W w w' : World} {d sb mb : Nat} {F : Nat → Prop} {l : List (Int × Value)} {M : DiskM} (hB : Below W.heap.size W w) (hD : DiskAt F w' d sb mb l M) (hF : ∀ x, F x → w.heap.size ≤ x) (hb : Below w.heap.size w w') : DiskIn W (fun _ => False) w' d sb mb M :=
  ⟨⟨F, l, hD, fun x hx => ⟨Nat.le_trans hB.size (hF x hx), id⟩⟩, hB.trans (hb.mono hB.size), fun _ h => h.elim⟩
theorem DiskIn.len {W w : World} {P : Nat → Prop} {d sb mb : Nat} {M : DiskM} (h : DiskIn W P w d sb mb M) : M.safe.length ≤ 524288 ∧ 8192 ≤ M.safe.length ∧ M.safe.length % 128 = 0 := by
  obtain ⟨F, l, hD, hF⟩ := h.at_
  exact hD.len
theorem DiskIn.row {W w : World} {P : Nat → Prop} {d sb mb : Nat} {M : DiskM} (h : DiskIn W P w d sb mb M) {i : Nat} (hi : i < M.safe.length / 128) : (readOf M i).length = 128 := by
  obtain ⟨F, l, hD, hF⟩ := h.at_
  exact readOf_len hD hi
theorem DiskIn.nodup {W w : World} {P : Nat → Prop} {d sb mb : Nat} {M : DiskM} (h : DiskIn W P w d sb mb M) : (dkeys M).Nodup := by
  obtain ⟨F, l, hD, hF⟩ := h.at_
  exact dkeys_nodup hD

theorem DiskIn.mono {W w : World} {P Q : Nat → Prop} {d sb mb : Nat} {M : DiskM} (h : DiskIn W P w d sb mb M) (hq : ∀ x, Q x → P x) : DiskIn W Q w d sb mb M := by
  obtain ⟨F, l, hD, hF⟩ := h.at_
  exact ⟨⟨F, l, hD, fun x hx => ⟨(hF x hx).1, fun h => (hF x hx).2 (hq x h)⟩⟩, h.below, fun x hx => h.low x (hq x hx)⟩
/-- Turned, and nothing else of the law's. -/
def InTurned (W : World) (P : Nat → Prop) (w : World) (d sb mb : Nat) (M : DiskM) (v : Value) (e : Ending) (w' : World) : Prop :=
  e = .returned v ∧ DiskIn W P w' d sb mb M ∧ Keeps (Wild W P) w w'
theorem in_write {W w : World} {P S : Nat → Prop} {d sb mb : Nat} {M : DiskM} (h : DiskIn W P w d sb mb M) (i : Int) (a : Option Addr) (n cap : Nat) (bs : List UInt8) (hw : M.writes < 4611686018427387904) (hr : RowAt S w a n (bs.map bv)) :
    Calls Try.prog 12 #[.pointer (some ⟨d, 0, none⟩), .int .i64 i, .slice a n cap] w (InTurned W P w d sb mb (writeM M i bs) (.int .i64 (writeE M i bs))) := by
  obtain ⟨F, l, hD, hF⟩ := h.at_
  refine (dwrite_any i a n cap bs hw w hr hD).mono ?_
  rintro e w' ⟨rfl, F', l', hD', hF', hK⟩
  have hs := h.below.size
  refine ⟨rfl, ⟨⟨F', l', hD', fun x hx => ?_⟩, h.below.trans (hK.low hs fun x hx => (hF x hx).1), fun x hx => Nat.lt_of_lt_of_le (h.low x hx) hK.size⟩, hK.mono fun x _ hx => hF x hx⟩
  rcases hF' x hx with h1 | h1
  · exact hF x h1
  · exact ⟨by omega, fun hp => by have := h.low x hp; omega⟩
theorem in_flush {W w : World} {P : Nat → Prop} {d sb mb : Nat} {M : DiskM} (h : DiskIn W P w d sb mb M) :
    Calls Try.prog 13 #[.pointer (some ⟨d, 0, none⟩)] w (InTurned W P w d sb mb (flushM M) (.tuple #[])) := by
  obtain ⟨F, l, hD, hF⟩ := h.at_
  refine (dflush_any w hD).mono ?_
  rintro e w' ⟨rfl, hD', hK⟩
  exact ⟨rfl, ⟨⟨F, [], hD', hF⟩, h.below.trans (hK.low h.below.size fun x hx => (hF x hx).1), fun x hx => Nat.lt_of_lt_of_le (h.low x hx) hK.size⟩, hK.mono fun x _ hx => hF x hx⟩
theorem in_crash {W w : World} {P S : Nat → Prop} {d sb mb : Nat} {M : DiskM} (h : DiskIn W P w d sb mb M) (keep : List Bool) (ka : Option Addr) (n kcap : Nat) (torn cut : Int) (hr : RowAt S w ka n (keep.map Value.bool)) (hS : ∀ b, S b → b < W.heap.size ∨ P b) :
    Calls Try.prog 16 #[.pointer (some ⟨d, 0, none⟩), .slice ka n kcap, .int .i64 torn, .int .i64 cut] w (InTurned W P w d sb mb (crashM M keep torn cut) (.tuple #[])) := by
  obtain ⟨F, l, hD, hF⟩ := h.at_
  refine (dcrash_at keep ka n kcap torn cut w hD hr (fun b hb hf => by rcases hS b hb with h1 | h1; have := (hF b hf).1; omega; exact (hF b hf).2 h1)).mono ?_
  rintro e w' ⟨rfl, hD', hK⟩
  exact ⟨rfl, ⟨⟨F, [], hD', hF⟩, h.below.trans (hK.low h.below.size fun x hx => (hF x hx).1), fun x hx => Nat.lt_of_lt_of_le (h.low x hx) hK.size⟩, hK.mono fun x _ hx => hF x hx⟩
/-- Crash, the list new since. -/
theorem in_crash_new {W w w' : World} {P S : Nat → Prop} {d sb mb : Nat} {M : DiskM} (h : DiskIn W P w d sb mb M) (hb : Below w.heap.size w w') (keep : List Bool) (ka : Option Addr) (n kcap : Nat) (torn cut : Int) (hr : RowAt S w' ka n (keep.map Value.bool)) (hS : ∀ b, S b → w.heap.size ≤ b ∧ b < w'.heap.size) :
    Calls Try.prog 16 #[.pointer (some ⟨d, 0, none⟩), .slice ka n kcap, .int .i64 torn, .int .i64 cut] w' (InTurned W P w' d sb mb (crashM M keep torn cut) (.tuple #[])) := by
  refine (in_crash (h.shield hb) keep ka n kcap torn cut hr (fun b hb => .inr (.inr (hS b hb)))).mono ?_
  rintro e w'' ⟨rfl, hD, hK⟩
  exact ⟨rfl, hD.mono (fun x hx => .inl hx), hK.mono fun x _ hx => ⟨hx.1, fun hp => hx.2 (.inl hp)⟩⟩
theorem in_crash_nil {W w : World} {P : Nat → Prop} {d sb mb : Nat} {M : DiskM} (h : DiskIn W P w d sb mb M) (torn cut : Int) :
    Calls Try.prog 16 #[.pointer (some ⟨d, 0, none⟩), .slice none 0 0, .int .i64 torn, .int .i64 cut] w (InTurned W P w d sb mb (crashM M [] torn cut) (.tuple #[])) :=
  in_crash (S := fun _ => False) h [] none 0 0 torn cut (RowAt.nil _ _ _) (fun _ h => h.elim)
theorem in_read {W w : World} {P : Nat → Prop} {d sb mb : Nat} {M : DiskM} (h : DiskIn W P w d sb mb M) (i : Int) :
    Calls Try.prog 17 #[.pointer (some ⟨d, 0, none⟩), .int .i64 i] w (ReadGives w (readM M i) (readE M i)) := by
  obtain ⟨F, l, hD, hF⟩ := h.at_
  exact dread_any i w hD
/-- Read, of a sector that is one. -/
theorem in_read_sec {W w : World} {P : Nat → Prop} {d sb mb : Nat} {M : DiskM} (h : DiskIn W P w d sb mb M) (i : Int) (bs : List UInt8) (hi : isSec M i) (hb : readOf M i = bs) :
    Calls Try.prog 17 #[.pointer (some ⟨d, 0, none⟩), .int .i64 i] w fun e w' => ∃ a c, e = .returned (.tuple #[.slice a 128 c, .int .i64 0]) ∧ RowAt (fun x => w.heap.size ≤ x ∧ x < w'.heap.size) w' a 128 (bs.map bv) ∧ Below w.heap.size w w' := by
  have h1 := in_read h i
  have e1 : readM M i = bs := (if_pos hi).trans hb
  have e2 : readE M i = 0 := if_pos hi
  rw [e1, e2] at h1
  refine h1.mono ?_
  rintro e w' ⟨a, c, rfl, hr, hB, _⟩
  have hl : bs.length = 128 := by
    obtain ⟨j, rfl⟩ : ∃ j : Nat, i = j := ⟨i.toNat, by have := hi.1; omega⟩
    rw [← hb]
    refine h.row ?_
    have := hi.2
    omega
  rw [hl] at hr ⊢
  exact ⟨a, c, rfl, hr, hB⟩
theorem in_image {W w : World} {P : Nat → Prop} {d sb mb : Nat} {M : DiskM} (h : DiskIn W P w d sb mb M) (n : Nat) (bs : List UInt8) (hn : M.safe.length = n) (hb : imgM M = bs) :
    Calls Try.prog 22 #[.pointer (some ⟨d, 0, none⟩)] w fun e w' => ∃ b c, e = .returned (.slice (some ⟨b, 0, none⟩) n c) ∧ n ≤ c ∧ RowAt (fun x => w.heap.size ≤ x ∧ x < w'.heap.size) w' (some ⟨b, 0, none⟩) n (bs.map bv) ∧ Below w.heap.size w w' := by
  obtain ⟨F, l, hD, hF⟩ := h.at_
  have := dimage_at n w hD hn
  rw [hb] at this
  exact this
theorem in_imgLen {W w : World} {P : Nat → Prop} {d sb mb : Nat} {M : DiskM} (h : DiskIn W P w d sb mb M) : (imgM M).length = M.safe.length := by
  obtain ⟨F, l, hD, hF⟩ := h.at_
  exact imgM_len hD
theorem in_dirty {W w : World} {P : Nat → Prop} {d sb mb : Nat} {M : DiskM} (h : DiskIn W P w d sb mb M) (zs : List Int) (n : Nat) (hz : dkeys M = zs) (hn : zs.length = n) :
    Calls Try.prog 15 #[.pointer (some ⟨d, 0, none⟩)] w fun e w' => ∃ a c, e = .returned (.slice a n c) ∧ RowAt (fun x => w.heap.size ≤ x ∧ x < w'.heap.size) w' a n (zs.map (Value.int .i64)) ∧ Below w.heap.size w w' := by
  obtain ⟨F, l, hD, hF⟩ := h.at_
  subst hz
  subst hn
  refine (ddirty_any w hD).mono ?_
  rintro e w' ⟨a, c, rfl, hr, hB⟩
  exact ⟨a, c, rfl, hr, hB⟩
theorem in_writes {W w : World} {P : Nat → Prop} {d sb mb : Nat} {M : DiskM} (h : DiskIn W P w d sb mb M) (n : Int) (hn : M.writes = n) :
    Calls Try.prog 18 #[.pointer (some ⟨d, 0, none⟩)] w fun e w' => e = .returned (.int .i64 n) ∧ w = w' := by
  obtain ⟨F, l, hD, hF⟩ := h.at_
  subst hn
  exact dwrites_any w hD
theorem in_sectors {W w : World} {P : Nat → Prop} {d sb mb : Nat} {M : DiskM} (h : DiskIn W P w d sb mb M) (n : Nat) (ni : Int) (hn : M.safe.length = n * 128) (hi : ni = n) :
    Calls Try.prog 24 #[.pointer (some ⟨d, 0, none⟩)] w fun e w' => e = .returned (.int .i64 ni) ∧ w = w' := by
  obtain ⟨F, l, hD, hF⟩ := h.at_
  have := dsectors_any w hD
  rw [hn, Nat.mul_div_cancel _ (by omega)] at this
  subst hi
  exact this
theorem in_new (W w : World) (hB : Below W.heap.size W w) : Calls Try.prog 9 #[.int .i64 64] w fun e w' => ∃ d sb mb, e = .returned (.tuple #[.pointer (some ⟨d, 0, none⟩), .int .i64 0]) ∧ DiskIn W (fun _ => False) w' d sb mb M0 ∧ Below w.heap.size w w' := by
  refine (dnew_64 w).mono ?_
  rintro e w' ⟨F, d, sb, mb, rfl, hD, hF, hb⟩
  exact ⟨d, sb, mb, rfl, DiskIn.of_new hB hD hF hb, hb⟩
theorem writeM_ok {M : DiskM} {i : Int} {bs : List UInt8} (h : isSec M i) (hb : bs.length = 128) : writeM M i bs = ⟨M.safe, aput (fun a b : Int => decide (a < b)) i bs M.dirty, M.writes + 1⟩ := if_pos ⟨h, hb⟩
theorem isSec64 {M : DiskM} {i : Int} (h : M.safe.length = 8192) (h0 : 0 ≤ i) (h1 : i < 64) : isSec M i := by unfold isSec; rw [h]; omega
end Go.Proofs.Ytkdomgiabiedlaa
