/- package snap: Forget. permafrost/permafrostbook.Same[int]: are two slices the same? permafrostlaw13: begin, known. -/
import Derived.Test.YtpgklnhkfgbpgaaGreatM29
import Derived.Test.YtpgklnhkfgbpgaaGreatM27
import Derived.Test.YtpgklnhkfgbpgaaGreatM01
import Derived.BigQuiet
import Derived.Deep.QuietTactic
import Derived.Test.YtpgklnhkfgbpgaaGreatM28
namespace Go.Proofs.YtpgklnhkfgbpgaaGreat
open Go.ChangeShapes Go.WideShapes Go.ChangeAt Go.RowKit
set_option linter.unusedVariables false
set_option linter.unusedSimpArgs false

def boundM (T : TrM) (now : Int) : Bool := decide (0 < (liveM T now).length)
def cutM (S : SnM) (k : Nat) : SnM := ⟨S.l.take k ++ S.l.drop (k + 1), S.next, S.last⟩
def ForgetR (S : SnM) (id now er : Int) (S' : SnM) : Prop :=
  (er = 29 ∧ S' = S ∧ ∀ x ∈ S.l, x.id ≠ id) ∨ ∃ (k : Nat) (x : OneM), S.l[k]? = some x ∧ x.id = id ∧ (∀ x' ∈ S.l.take k, x'.id ≠ id) ∧ ((boundM x.t now = true ∧ er = 28 ∧ S' = S) ∨ (boundM x.t now = false ∧ er = 0 ∧ S' = cutM S k))
/-- The rows that 'X[:k]' and 'X[k+1:]' read. -/
theorem cut_rowsO {F : Nat → Prop} {w w1 : World} {b off n c k s : Nat} {vs : List Value} (h : RowAt F w (some ⟨b, off, none⟩) (n * s) vs) (hk : k < n) (hb : Below w.heap.size w w1) :
    RowAt F w1 (some ⟨b, off, none⟩) (k * s) (vs.take (k * s)) ∧ RowAt F w1 (if c = k + 1 then some ⟨b, off, none⟩ else some ⟨b, off + (k + 1) * s, none⟩) ((n - (k + 1)) * s) (vs.drop ((k + 1) * s)) ∨ c < n := by
  by_cases hcn : c < n
  · exact .inr hcn
  · left
    have h1 := h.below hb (Nat.le_refl _)
    have h2 := h1.take (k * s)
    have hks : k * s ≤ n * s := Nat.mul_le_mul_right s (by omega)
    rw [Nat.min_eq_right hks] at h2
    have h4 := h1.drop ((k + 1) * s)
    rw [← Nat.sub_mul] at h4
    refine ⟨h2, ?_⟩
    by_cases hce : c = k + 1
    · rw [if_pos hce]
      have hl := h.length
      have hkn : k + 1 = n := by omega
      exact RowAt.zero _ _ _ (by rw [show n - (k + 1) = 0 by omega, Nat.zero_mul]) (by rw [hkn]; exact List.drop_of_length_le (by omega))
    · rw [if_neg hce]; exact h4
theorem OneAt.one {o : Mark} {w : World} {vs : List Value} {x : OneM} (h : OneAt o w vs x) : ∀ u ∈ vs, u.oneCell' = true := by
  obtain ⟨a, c, q, h1, _⟩ := h
  intro u hu
  rw [h1] at hu
  simp only [List.mem_cons, List.not_mem_nil, or_false] at hu
  rcases hu with rfl | rfl | rfl <;> rfl
theorem OnesAt.one {o : Mark} {w : World} : ∀ {vs : List Value} {l : List OneM}, OnesAt o w vs l → ∀ u ∈ vs, u.oneCell' = true
  | _, [], h => by have h1 : _ = [] := h; rw [h1]; intro u hu; cases hu
  | _, x :: r, ⟨v1, v2, h1, h2, h3⟩ => by
    intro u hu
    rw [h1] at hu
    rcases List.mem_append.1 hu with hu | hu
    · exact h2.one u hu
    · exact OnesAt.one h3 u hu
theorem two_cells (w : World) (x y : Value) (t : TypeId) : (w.alloc (.cells #[x, y] t)).drew.cell? ⟨w.heap.size, 0, none⟩ = some x ∧ (w.alloc (.cells #[x, y] t)).drew.cell? ⟨w.heap.size, 1, none⟩ = some y ∧ w.heap.size < (w.alloc (.cells #[x, y] t)).drew.heap.size := by
  have h := (MapKept.heap_alloc w (.cells #[x, y] t)).1
  have h2 : (w.alloc (.cells #[x, y] t)).drew.heap[w.heap.size]? = some (.cells #[x, y] t (0, 0)) := h
  refine ⟨?_, ?_, ?_⟩
  · unfold World.cell?; simp only [h2]; rfl
  · unfold World.cell?; simp only [h2]; rfl
  · exact (Array.getElem?_eq_some_iff.1 h2).1
section
variable {W w : World} {o : Mark} {i s : Nat} {S : SnM}
theorem forget_end {w8 : World} {v v8 : Value} {vals : List Value} {k B lc : Nat} {la : Option Addr} (hM : Marks W o w) (hi : i ≠ 0) (hh : w.heap[s]? = some (.cells #[v, .int .i64 S.next, .slice la S.last.length lc] 65 (0, 0)))
    (hos : o s = i) (hsw : s < w.heap.size) (hO : OnesAt o w vals S.l) (hlc : S.last.length ≤ lc) (hlr : RowAt (fun b => o b = 0 ∧ b < w.heap.size) w la S.last.length (S.last.map bv)) (hb : Below w.heap.size w w8)
    (hown : w8.ownsRow B 62 3 v8 (S.l.take k ++ S.l.drop (k + 1)).length (vals.take (k * 3) ++ vals.drop ((k + 1) * 3))) (hB : w.heap.size ≤ B) :
    ∃ o', Step o (fun j => j = i) w o' (w8.setCell ⟨s, 0, none⟩ v8) ∧ SnapsO o' i (w8.setCell ⟨s, 0, none⟩ v8) s (cutM S k) := by
  obtain ⟨o', hs, h1, h2⟩ := mark_new hM i (fun b => v8.ownBlock = some b) (w' := w8) (fun b hb' => ⟨by have := own_block_ge hown b hb'; omega, own_lt hown b hb'⟩) hb
  have hi0 : ¬ (fun j => j = i) 0 := fun e => hi e.symm
  have hs8 : w8.heap[s]? = _ := (hb.block s hsw).trans hh
  have hz := size_set w8 ⟨s, 0, none⟩ v8
  have hst : Step o (fun j => j = i) w o' (w8.setCell ⟨s, 0, none⟩ v8) := by
    refine hs.trans ⟨fun _ _ => rfl, fun b hb' hn => ?_, (Keeps.set_ w8 ⟨s, 0, none⟩ v8).mono fun x _ hx => by
      have hx : x = s := hx
      rw [hx]; exact (hs.old s hsw).trans hos⟩
    have := (hs.new b (Nat.le_trans hb.size hb') hn).2
    omega
  have hst2 : Step o (fun j => j = i) w o' w8 := hs
  refine ⟨o', hst, ⟨v8, la, lc, _, heap_set_same hs8, (hst.old s hsw).trans hos, by have := hb.size; omega, ?_, fun b hb' => ?_, OnesAt.append ((hO.take k).step hi0 hst) ((hO.drop (k + 1)).step hi0 hst), hlc, ?_⟩⟩
  · exact own_base (own_keep hown fun b hb' _ => heap_set_other _ _ _ _ (by have := own_block_ge hown b hb'; simp only; omega)) (Nat.zero_le _)
  · exact ⟨h1 b hb', by have := own_block_ge hown b hb'; omega, by have := own_lt hown b hb'; omega⟩
  · exact hlr.move hst.keep.size fun b hb' _ => ⟨⟨(hst.old b hb'.2).trans hb'.1, Nat.lt_of_lt_of_le hb'.2 hst.keep.size⟩, hst.block hb'.2 (by rw [hb'.1]; exact hi0)⟩
set_option maxRecDepth 100000 in
set_option maxHeartbeats 8000000 in
theorem forget_any (hS : SnapsO o i w s S) (hM : Marks W o w) (hi : i ≠ 0) (hl8 : S.l.length ≤ 8) (id now : Int) :
    Calls Tryz.prog 7 #[ptr s, .int .i64 id, .int .u64 now] w fun e w' => ∃ er S' o', e = .returned (.int .i64 er) ∧ ForgetR S id now er S' ∧ Step o (fun k => k = i) w o' w' ∧ SnapsO o' i w' s S' := by
  have HS := Lib.hid hS
  have HM := Lib.hid hM
  obtain ⟨v, la, lc, vals, h1, h2, h3, h4, h5, h6, h7, h8⟩ := hS.at_
  obtain ⟨a, c, rfl, hcap⟩ := own_form h4
  obtain ⟨-, -, hrow⟩ := RowAt.of_rown h4 (by unfold maxLen; omega)
  have HF := Lib.hid (find_any hS id (by omega))
  have HH := Lib.hid h1
  have HON := Lib.hid h6
  have HLR := Lib.hid h8
  have HLC := Lib.hid h7
  have HOS := Lib.hid h2
  have HROW := Lib.hid hrow
  obtain ⟨n, hn⟩ : ∃ n, n = S.l.length := ⟨_, rfl⟩
  have HN := Lib.hid hn
  rw [← hn] at hcap hl8
  clear hS hM h1 h2 h4 h5 h6 h7 h8 hrow hn
  go_enter Tryz.func7, Tryz.ntmps7
  go_wp2_with fail
  (with_reducible refine HF.out.mono ?_)
  rintro e w1 ⟨v, rfl, hf, hb1⟩
  have HB1 := Lib.hid hb1
  clear hb1
  rcases hf with ⟨rfl, hno⟩ | ⟨k, x, rfl, hx, hid, hno⟩
  · have HNO := Lib.hid hno
    clear hno
    go_wp2_with fail
    go_ret
    exact ⟨29, S, o, rfl, .inl ⟨rfl, rfl, HNO.out⟩, Step.grow HM.out HB1.out, HS.out.grow HM.out HB1.out⟩
  · have hkn : k < n := by rw [HN.out]; exact (List.getElem?_eq_some_iff.1 hx).1
    have HRW := HROW.out
    rw [← HN.out] at HRW
    obtain ⟨g, off, rfl, hgw, _, hcell⟩ := HRW.at_ (by omega)
    have HRX := Lib.hid HRW
    obtain ⟨ha, hcp, q, e0, e1, e2, e3, e4, e5, e6⟩ := HON.out.at_ hx
    have d2 : w1.cell? ⟨g, off + k * 3 + 2, none⟩ = some (ptr q) := (HB1.out.cell (p := ⟨g, off + k * 3 + 2, none⟩) hgw.2).trans ((hcell (k * 3 + 2) (by omega)).trans e2)
    have hbS := HB1.out.block s h3
    have c0 : w1.cell? ⟨s, 0, none⟩ = some (.slice (some ⟨g, off, none⟩) n c) := by
      have := hbS.trans HH.out
      rw [HN.out]
      simp [World.cell?, this]
    obtain ⟨gg, D, mb, ib, nb, hA, hg9, hD9⟩ := e5.grow HB1.out
    have HBD := Lib.hid (bound_any now w1 hA e6)
    have HFX := Lib.hid (And.intro hx (And.intro hid hno))
    have hneg : ¬ ((k : Int) < 0) := by omega
    have i0 : (0 : Int) ≤ k := by omega
    have i1 : (k : Int) < n := by omega
    have i1' : (k : Int) ≤ c := by omega
    have i2 : (k : Int) + 1 ≤ n := by omega
    have i3 : (0 : Int) ≤ (k : Int) + 1 := by omega
    have i4 : (n : Int) ≤ c := by omega
    have ew : IntKind.i64.wrap ((k : Int) + 1) = (k : Int) + 1 := IntWalk.i64_in _ (by omega)
    clear hx hid hno hcell e0 e1 e2 e3 e4 e5 e6 hA hg9 hD9 HRW hbS
    obtain ⟨bd, hbd⟩ : ∃ bd, bd = decide (0 < (liveM x.t now).length) := ⟨_, rfl⟩
    rw [← hbd] at HBD
    have HBE := Lib.hid hbd
    clear hbd
    cases bd with
    | true =>
      go_wp2_with fail
      (with_reducible refine HBD.out.mono ?_)
      rintro e w2 ⟨rfl, hb2⟩
      have HB2 := Lib.hid hb2
      clear hb2
      go_wp2_with fail
      go_ret
      have hB := HB1.out.trans (HB2.out.mono HB1.out.size)
      exact ⟨28, S, o, rfl, .inr ⟨k, x, HFX.out.1, HFX.out.2.1, HFX.out.2.2, .inl ⟨HBE.out.symm, rfl, rfl⟩⟩, Step.grow HM.out hB, HS.out.grow HM.out hB⟩
    | false =>
      go_wp2_with fail
      (with_reducible refine HBD.out.mono ?_)
      rintro e w2 ⟨rfl, hb2⟩
      have HB2 := Lib.hid (HB1.out.trans (hb2.mono HB1.out.size))
      have hs2 := hb2.size
      have hs1 := HB1.out.size
      have HK : Hid (∀ w', Below w.heap.size w w' → w'.cell? ⟨s, 0, none⟩ = some (.slice (some ⟨g, off, none⟩) n c) ∧ w'.frozen? ⟨s, 0, none⟩ = false) := fun w' hb => by
        have := (hb.block s h3).trans HH.out
        rw [HN.out]
        refine ⟨?_, ?_⟩ <;> simp [World.cell?, World.frozen?, this]
      clear c0 d2 hb2
      go_wp2_with fail
      refine wp_region_noPanic ?_
      refine wp_region_L (last := 18) (S := (fun w' => w'.cell? ⟨s, 0, none⟩ = some (.slice (some ⟨g, off, none⟩) n c) ∧ w'.frozen? ⟨s, 0, none⟩ = false)) (by kernel_rfl) ?_ (fun hS => ?_)
      · exact HK.out _ (HB2.out.trans (Below.refl _ _).drew)
      refine wpAnyL_take (i := 0) (oi := ?oi1) (v := ?v1) ?hi1 (by kernel_rfl) (by kernel_rfl) (by kernel_rfl) (by kernel_rfl) (by kernel_rfl) ?hq1 (Or.inl ⟨?hw1, ?hy1⟩) hS ?rest1
      case hi1 => simp only [List.getElem?_toArray, List.getElem?_cons_succ, List.getElem?_cons_zero]; rfl
      case hq1 => exact fun _ _ _ h => h
      case hw1 => rfl
      case hy1 => intro w hSw; (try dsimp only at hSw); go_simp; (try with_reducible rfl)
      try simp only [Act.put, List.setIfInBounds_toArray, List.set_cons_zero, List.set_cons_succ]
      refine wpAnyL_take (i := 1) (oi := ?oi2) (v := ?v2) ?hi2 (by kernel_rfl) (by kernel_rfl) (by kernel_rfl) (by kernel_rfl) (by kernel_rfl) ?hq2 (Or.inl ⟨?hw2, ?hy2⟩) hS ?rest2
      case hi2 => simp only [List.getElem?_toArray, List.getElem?_cons_succ, List.getElem?_cons_zero]; rfl
      case hq2 => exact fun _ _ _ h => h
      case hw2 => rfl
      case hy2 => intro w hSw; (try dsimp only at hSw); go_simp; (try with_reducible rfl)
      try simp only [Act.put, List.setIfInBounds_toArray, List.set_cons_zero, List.set_cons_succ]
      refine wpAnyL_take (i := 2) (oi := ?oi3) (v := ?v3) ?hi3 (by kernel_rfl) (by kernel_rfl) (by kernel_rfl) (by kernel_rfl) (by kernel_rfl) ?hq3 (Or.inl ⟨?hw3, ?hy3⟩) hS ?rest3
      case hi3 => simp only [List.getElem?_toArray, List.getElem?_cons_succ, List.getElem?_cons_zero]; rfl
      case hq3 => exact fun _ _ _ h => h
      case hw3 => rfl
      case hy3 => intro w hSw; (try dsimp only at hSw); go_simp; (try with_reducible rfl)
      try simp only [Act.put, List.setIfInBounds_toArray, List.set_cons_zero, List.set_cons_succ]
      refine wpAnyL_take (i := 3) (oi := ?oi4) (v := ?v4) ?hi4 (by kernel_rfl) (by kernel_rfl) (by kernel_rfl) (by kernel_rfl) (by kernel_rfl) ?hq4 (Or.inl ⟨?hw4, ?hy4⟩) hS ?rest4
      case hi4 => simp only [List.getElem?_toArray, List.getElem?_cons_succ, List.getElem?_cons_zero]; rfl
      case hq4 => exact fun _ _ _ h => h
      case hw4 => rfl
      case hy4 => intro w hSw; (try dsimp only at hSw); go_simp; (try with_reducible rfl)
      try simp only [Act.put, List.setIfInBounds_toArray, List.set_cons_zero, List.set_cons_succ]
      refine wpAnyL_take (i := 4) (oi := ?oi5) (v := ?v5) ?hi5 (by kernel_rfl) (by kernel_rfl) (by kernel_rfl) (by kernel_rfl) (by kernel_rfl) ?hq5 (Or.inl ⟨?hw5, ?hy5⟩) hS ?rest5
      case hi5 => simp only [List.getElem?_toArray, List.getElem?_cons_succ, List.getElem?_cons_zero]; rfl
      case hq5 => exact fun _ _ _ h => h
      case hw5 => rfl
      case hy5 => intro w hSw; (try dsimp only at hSw); go_simp; (try with_reducible rfl)
      try simp only [Act.put, List.setIfInBounds_toArray, List.set_cons_zero, List.set_cons_succ]
      refine wpAnyL_take (i := 5) (oi := ?oi6) (v := ?v6) ?hi6 (by kernel_rfl) (by kernel_rfl) (by kernel_rfl) (by kernel_rfl) (by kernel_rfl) ?hq6 (Or.inl ⟨?hw6, ?hy6⟩) hS ?rest6
      case hi6 => simp only [List.getElem?_toArray, List.getElem?_cons_succ, List.getElem?_cons_zero]; rfl
      case hq6 => exact fun _ _ _ h => h
      case hw6 => rfl
      case hy6 => intro w hSw; (try dsimp only at hSw); go_simp; (try with_reducible rfl)
      try simp only [Act.put, List.setIfInBounds_toArray, List.set_cons_zero, List.set_cons_succ]
      refine wpAnyL_take (i := 6) (oi := ?oi7) (v := ?v7) ?hi7 (by kernel_rfl) (by kernel_rfl) (by kernel_rfl) (by kernel_rfl) (by kernel_rfl) ?hq7 (Or.inl ⟨?hw7, ?hy7⟩) hS ?rest7
      case hi7 => simp only [List.getElem?_toArray, List.getElem?_cons_succ, List.getElem?_cons_zero]; rfl
      case hq7 => exact fun _ _ _ h => h
      case hw7 => rfl
      case hy7 => intro w hSw; (try dsimp only at hSw); go_simp; (try with_reducible rfl)
      try simp only [Act.put, List.setIfInBounds_toArray, List.set_cons_zero, List.set_cons_succ]
      refine wpAnyL_take (i := 7) (oi := ?oi8) (v := ?v8) ?hi8 (by kernel_rfl) (by kernel_rfl) (by kernel_rfl) (by kernel_rfl) (by kernel_rfl) ?hq8 (Or.inl ⟨?hw8, ?hy8⟩) hS ?rest8
      case hi8 => simp only [List.getElem?_toArray, List.getElem?_cons_succ, List.getElem?_cons_zero]; rfl
      case hq8 => exact fun _ _ _ h => h
      case hw8 => rfl
      case hy8 => intro w hSw; (try dsimp only at hSw); go_simp; (try with_reducible rfl)
      try simp only [Act.put, List.setIfInBounds_toArray, List.set_cons_zero, List.set_cons_succ]
      refine wpAnyL_take (i := 8) (oi := ?oi9) (v := ?v9) ?hi9 (by kernel_rfl) (by kernel_rfl) (by kernel_rfl) (by kernel_rfl) (by kernel_rfl) ?hq9 (Or.inl ⟨?hw9, ?hy9⟩) hS ?rest9
      case hi9 => simp only [List.getElem?_toArray, List.getElem?_cons_succ, List.getElem?_cons_zero]; rfl
      case hq9 => exact fun _ _ _ h => h
      case hw9 => rfl
      case hy9 => intro w hSw; (try dsimp only at hSw); go_simp; (try with_reducible rfl)
      try simp only [Act.put, List.setIfInBounds_toArray, List.set_cons_zero, List.set_cons_succ]
      refine wpAnyL_take (i := 9) (oi := ?oi10) (v := ?v10) ?hi10 (by kernel_rfl) (by kernel_rfl) (by kernel_rfl) (by kernel_rfl) (by kernel_rfl) ?hq10 (Or.inl ⟨?hw10, ?hy10⟩) hS ?rest10
      case hi10 => simp only [List.getElem?_toArray, List.getElem?_cons_succ, List.getElem?_cons_zero]; rfl
      case hq10 => exact fun _ _ _ h => h
      case hw10 => rfl
      case hy10 => intro w hSw; (try dsimp only at hSw); go_simp; (try with_reducible rfl)
      try simp only [Act.put, List.setIfInBounds_toArray, List.set_cons_zero, List.set_cons_succ]
      refine wpAnyL_take (i := 10) (oi := ?oi11) (v := ?v11) ?hi11 (by kernel_rfl) (by kernel_rfl) (by kernel_rfl) (by kernel_rfl) (by kernel_rfl) ?hq11 (Or.inl ⟨?hw11, ?hy11⟩) hS ?rest11
      case hi11 => simp only [List.getElem?_toArray, List.getElem?_cons_succ, List.getElem?_cons_zero]; rfl
      case hq11 => exact fun _ _ _ h => h
      case hw11 => rfl
      case hy11 => intro w hSw; (try dsimp only at hSw); go_simp; (try with_reducible rfl)
      try simp only [Act.put, List.setIfInBounds_toArray, List.set_cons_zero, List.set_cons_succ]
      refine wpAnyL_take (i := 11) (oi := ?oi12) (v := ?v12) ?hi12 (by kernel_rfl) (by kernel_rfl) (by kernel_rfl) (by kernel_rfl) (by kernel_rfl) ?hq12 (Or.inl ⟨?hw12, ?hy12⟩) hS ?rest12
      case hi12 => simp only [List.getElem?_toArray, List.getElem?_cons_succ, List.getElem?_cons_zero]; rfl
      case hq12 => exact fun _ _ _ h => h
      case hw12 => rfl
      case hy12 => intro w hSw; (try dsimp only at hSw); go_simp; (try with_reducible rfl)
      try simp only [Act.put, List.setIfInBounds_toArray, List.set_cons_zero, List.set_cons_succ]
      refine wpAnyL_take (i := 12) (oi := ?oi13) (v := ?v13) ?hi13 (by kernel_rfl) (by kernel_rfl) (by kernel_rfl) (by kernel_rfl) (by kernel_rfl) ?hq13 (Or.inl ⟨?hw13, ?hy13⟩) hS ?rest13
      case hi13 => simp only [List.getElem?_toArray, List.getElem?_cons_succ, List.getElem?_cons_zero]; rfl
      case hq13 => exact fun _ _ _ h => h
      case hw13 => rfl
      case hy13 => intro w hSw; (try dsimp only at hSw); go_simp; (try with_reducible rfl)
      try simp only [Act.put, List.setIfInBounds_toArray, List.set_cons_zero, List.set_cons_succ]
      refine wpAnyL_take (i := 13) (oi := ?oi14) (v := ?v14) ?hi14 (by kernel_rfl) (by kernel_rfl) (by kernel_rfl) (by kernel_rfl) (by kernel_rfl) ?hq14 (Or.inl ⟨?hw14, ?hy14⟩) hS ?rest14
      case hi14 => simp only [List.getElem?_toArray, List.getElem?_cons_succ, List.getElem?_cons_zero]; rfl
      case hq14 => exact fun _ _ _ h => h
      case hw14 => rfl
      case hy14 => intro w hSw; (try dsimp only at hSw); go_simp; (try with_reducible rfl)
      try simp only [Act.put, List.setIfInBounds_toArray, List.set_cons_zero, List.set_cons_succ]
      obtain ⟨A2, hA2⟩ : ∃ A2 : Option Addr, A2 = if c = k + 1 then some ⟨g, off, none⟩ else some ⟨g, off + (k + 1) * 3, none⟩ := ⟨_, rfl⟩
      rw [← hA2]
      have HA2 := Lib.hid hA2
      clear hA2
      refine wpAnyL_ready (rs := [14]) (by kernel_rfl) (by simp) ?_
      refine AllReadyL.cons (o := ?o15) ?ho15 (fun K hK => ?_) AllReadyL.nil
      case ho15 => simp only [List.getElem?_toArray, List.getElem?_cons_succ, List.getElem?_cons_zero]; rfl
      go_simp
      have hBA : Below w2.heap.size w2 (w2.alloc (.cells #[.slice (some ⟨g, off, none⟩) k c, .slice A2 (n - (k + 1)) (c - (k + 1))] 63)).drew := (wall w2 _).trans (Below.refl _ _).drew
      have hBW : Below w.heap.size w (w2.alloc (.cells #[.slice (some ⟨g, off, none⟩) k c, .slice A2 (n - (k + 1)) (c - (k + 1))] 63)).drew := HB2.out.trans (hBA.mono HB2.out.size)
      have HBW := Lib.hid hBW
      obtain ⟨hC0, hC1, hzA⟩ := two_cells w2 (.slice (some ⟨g, off, none⟩) k c) (.slice A2 (n - (k + 1)) (c - (k + 1))) 63
      have hRR := (cut_rowsO (c := c) HRX.out hkn hBW).resolve_right (by omega)
      rw [← HA2.out] at hRR
      have hv1 := HON.out.one
      have hvl := HON.out.len
      have hfl : ([vals.take (k * 3), vals.drop ((k + 1) * 3)].flatten).length = (k + (n - (k + 1))) * 3 := by
        rw [← HN.out] at hvl
        simp [hvl]; omega
      have HCC := Lib.hid (concatO_any (w2.heap.size) 2 (k + (n - (k + 1))) [vals.take (k * 3), vals.drop ((k + 1) * 3)] _ rfl (by omega) hzA hfl (by omega) (fun j hj => by
        rcases j with _ | _ | j
        · exact ⟨_, _, _, _, hC0, hRR.1, rfl, fun u hu => hv1 u (List.mem_of_mem_take hu)⟩
        · exact ⟨_, _, _, _, hC1, hRR.2, rfl, fun u hu => hv1 u (List.mem_of_mem_drop hu)⟩
        · omega))
      have HBA := Lib.hid hBA
      clear hBA hC0 hC1 hRR hv1 hvl hfl hzA
      refine hK.out _ _ (fun _ => HK.out _ hBW) (fun hS => ?_)
      replace hS := hS (by decide)
      clear hK K
      try simp only [Act.put, List.setIfInBounds_toArray, List.set_cons_zero, List.set_cons_succ]
      clear hBW
      refine wpAnyL_ready (rs := [15]) (by kernel_rfl) (by simp) ?_
      refine AllReadyL.cons (o := ?o16) ?ho16 (fun K hK => ?_) AllReadyL.nil
      case ho16 => simp only [List.getElem?_toArray, List.getElem?_cons_succ, List.getElem?_cons_zero]; rfl
      go_simp
      (with_reducible refine HCC.out.mono ?_)
      rintro e w3 ⟨v8, rfl, hown, hb3⟩
      have HB3 := Lib.hid (HBW.out.trans (hb3.mono HBW.out.size))
      have HOWN := Lib.hid hown
      obtain ⟨a8, c8, rfl, -⟩ := own_form hown
      clear hown hb3
      go_wp2_with fail
      refine hK.out _ _ (fun _ => HK.out _ HB3.out) (fun hS => ?_)
      replace hS := hS (by decide)
      clear hK K
      try simp only [Act.put, List.setIfInBounds_toArray, List.set_cons_zero, List.set_cons_succ]
      refine wpAnyL_take (i := 16) (oi := ?oi17) (v := ?v17) ?hi17 (by kernel_rfl) (by kernel_rfl) (by kernel_rfl) (by kernel_rfl) (by kernel_rfl) ?hq17 (Or.inl ⟨?hw17, ?hy17⟩) hS ?rest17
      case hi17 => simp only [List.getElem?_toArray, List.getElem?_cons_succ, List.getElem?_cons_zero]; rfl
      case hq17 => exact fun _ _ _ h => h
      case hw17 => rfl
      case hy17 => intro w hSw; (try dsimp only at hSw); go_simp; (try with_reducible rfl)
      try simp only [Act.put, List.setIfInBounds_toArray, List.set_cons_zero, List.set_cons_succ]
      refine wpAnyL_take (i := 17) (oi := ?oi18) (v := ?v18) ?hi18 (by kernel_rfl) (by kernel_rfl) (by kernel_rfl) (by kernel_rfl) (by kernel_rfl) ?hq18 (Or.inl ⟨?hw18, ?hy18⟩) hS ?rest18
      case hi18 => simp only [List.getElem?_toArray, List.getElem?_cons_succ, List.getElem?_cons_zero]; rfl
      case hq18 => exact fun _ _ _ h => h
      case hw18 => rfl
      case hy18 => intro w hSw; (try dsimp only at hSw); go_simp; (try with_reducible rfl)
      try simp only [Act.put, List.setIfInBounds_toArray, List.set_cons_zero, List.set_cons_succ]
      refine wpAnyL_ready (rs := [18]) (by kernel_rfl) (by simp) ?_
      refine AllReadyL.cons (o := ?o19) ?ho19 (fun K hK => ?_) AllReadyL.nil
      case ho19 => simp only [List.getElem?_toArray, List.getElem?_cons_succ, List.getElem?_cons_zero]; rfl
      go_simp
      refine hK.out _ _ (fun h => absurd rfl h) (fun hS => ?_)
      clear hS hK K
      try simp only [Act.put, List.setIfInBounds_toArray, List.set_cons_zero, List.set_cons_succ]
      refine wpAnyL_done (by kernel_rfl) ?_ _
      refine NoPanic.normal ?_
      go_wp2_with fail
      go_ret
      have hlen : (S.l.take k ++ S.l.drop (k + 1)).length = k + (n - (k + 1)) := by
        have := HN.out
        rw [List.length_append, List.length_take, List.length_drop]; omega
      have hown := HOWN.out
      rw [← hlen] at hown
      have hfe : [vals.take (k * 3), vals.drop ((k + 1) * 3)].flatten = vals.take (k * 3) ++ vals.drop ((k + 1) * 3) := by simp
      rw [hfe] at hown
      obtain ⟨o', hs, hSn⟩ := forget_end (k := k) HM.out hi HH.out HOS.out h3 HON.out HLC.out HLR.out HB3.out hown HBW.out.size
      rw [hlen] at hs hSn
      exact ⟨0, _, o', rfl, .inr ⟨k, x, HFX.out.1, HFX.out.2.1, HFX.out.2.2, .inr ⟨HBE.out.symm, rfl, rfl⟩⟩, hs, hSn⟩
end
end Go.Proofs.YtpgklnhkfgbpgaaGreat
namespace Go.Proofs.YtpgklnhkfgbpgaaGreat
open Go.ChangeShapes Go.WideShapes Go.ChangeAt Go.RowKit
set_option linter.unusedVariables false

def SameIsI (w : World) (r : Bool) (e : Ending) (w' : World) : Prop := e = .returned (.bool r) ∧ ∃ q, w' = w.drewN q
theorem take_sameI {xs ys : List Int} {k : Nat} (hk : k < xs.length) (hk' : k < ys.length) (h : xs.take k = ys.take k) (he : xs[k] = ys[k]) : xs.take (k + 1) = ys.take (k + 1) := by
  rw [List.take_succ_eq_append_getElem hk, List.take_succ_eq_append_getElem hk', h, he]
set_option maxHeartbeats 1000000 in
theorem sameI_any {S S' : Nat → Prop} (a b : Option Addr) (ca cb : Nat) (xs ys : List Int) (w : World) (ha : RowAt S w a xs.length (xs.map (Value.int .i64))) (hb : RowAt S' w b ys.length (ys.map (Value.int .i64))) :
    Calls Tryz.prog 13 #[.slice a xs.length ca, .slice b ys.length cb] w (SameIsI w (decide (xs = ys))) := by
  have ha1 := ha.small
  have hb1 := hb.small
  unfold maxLen at ha1 hb1
  by_cases hl : xs.length = ys.length
  · have e1 : ((xs.length : Int) != (ys.length : Int)) = false := by simp [hl]
    obtain ⟨n, hn⟩ : ∃ n, n = xs.length := ⟨_, rfl⟩
    rw [← hn] at hl ha ha1 e1 ⊢
    rw [← hl] at hb hb1 e1 ⊢
    have HA := Lib.hid ha
    have HB := Lib.hid hb
    have HL := Lib.hid hl
    have HN := Lib.hid hn
    have e2 : ((n : Int) != (n : Int)) = false := by simp
    clear ha hb hl hn e1 hb1
    go_enter Tryz.func13, Tryz.ntmps13
    go_wp2
    go_loopw [5] (fun i wr => ∃ k q : Nat, k ≤ n ∧ i = .int .i64 k ∧ wr = w.drewN q ∧ Hid (xs.take k = ys.take k)) (fun i _ => n - (intOf i).toNat)
    case atStart => exact ⟨0, 0, by omega, rfl, rfl, show _ = _ by simp⟩
    case round =>
      obtain ⟨k, q, hk, rfl, rfl, hT⟩ := hrel
      by_cases hlt : k < n
      · obtain ⟨b1, o1, rfl, _, _, hc1⟩ := HA.out.at_ (by omega)
        obtain ⟨b2, o2, rfl, _, _, hc2⟩ := HB.out.at_ (by omega)
        have hx : k < xs.length := by rw [← HN.out]; exact hlt
        have hy : k < ys.length := by rw [← HL.out]; exact hlt
        have g1 : w.cell? ⟨b1, o1 + k, none⟩ = some ((Value.int .i64) xs[k]) := by rw [hc1 k hlt, List.getElem?_map, List.getElem?_eq_getElem hx]; rfl
        have g2 : w.cell? ⟨b2, o2 + k, none⟩ = some ((Value.int .i64) ys[k]) := by rw [hc2 k hlt, List.getElem?_map, List.getElem?_eq_getElem hy]; rfl
        have i0 : (0 : Int) ≤ (k : Int) := by omega
        have i1 : (k : Int) < (n : Int) := by omega
        clear hc1 hc2
        have HX := fun h => take_sameI hx hy hT.out h
        by_cases heq : xs[k] = ys[k]
        · have HX2 := Lib.hid (HX heq)
          have e3 : (xs[k] != ys[k]) = false := by simp [heq]
          clear HX
          generalize xs[k] = x at g1 e3 heq
          generalize ys[k] = y at g2 e3 heq
          have HEQ := Lib.hid heq
          clear heq
          go_wp2
          go_quiet (fail)
          go_wp2
          go_roundw
          case rel => exact ⟨k + 1, _, by omega, by go_num, rfl, HX2⟩
          case measure => simp [intOf]; omega
        · have hne : xs ≠ ys := fun h => heq (by subst h; rfl)
          have e3 : (xs[k] != ys[k]) = true := by simp; exact heq
          have HNE := Lib.hid hne
          clear HX hne
          generalize xs[k] = x at g1 e3 heq
          generalize ys[k] = y at g2 e3 heq
          have HEQ := Lib.hid heq
          clear heq
          go_wp2
          go_quiet (fail)
          go_wp2
          go_ret
          exact ⟨ret_bool (by simp [HNE.out]), _, World.drewN_drewN _ _ _⟩
      · obtain rfl : k = n := by omega
        have he : xs = ys := by
          have := hT.out
          rw [List.take_of_length_le (by rw [← HN.out]; omega), List.take_of_length_le (by rw [← HL.out]; omega)] at this
          exact this
        have HE := Lib.hid he
        clear he
        go_wp2
        go_ret
        exact ⟨ret_bool (by simp [HE.out]), _, rfl⟩
  · have e1 : ((xs.length : Int) != (ys.length : Int)) = true := by simp; omega
    have hne : xs ≠ ys := fun h => hl (by rw [h])
    have HNE := Lib.hid hne
    clear hne hl ha hb
    go_enter Tryz.func13, Tryz.ntmps13
    go_wp2
    go_ret
    exact ⟨ret_bool (by simp [HNE.out]), 0, rfl⟩
theorem sameI_yes {S S' : Nat → Prop} (a b : Option Addr) (n ca cb : Nat) (xs : List Int) (w : World) (ha : RowAt S w a n (xs.map (Value.int .i64))) (hb : RowAt S' w b n (xs.map (Value.int .i64))) :
    Calls Tryz.prog 13 #[.slice a n ca, .slice b n cb] w (SameIsI w true) := by
  have hl : xs.length = n := by have := ha.length; simpa using this
  subst hl
  have := sameI_any a b ca cb xs xs w ha hb
  rwa [show decide (xs = xs) = true by simp] at this
end Go.Proofs.YtpgklnhkfgbpgaaGreat
namespace Go.Proofs.YtpgklnhkfgbpgaaGreat
open Go.ChangeShapes Go.WideShapes Go.ChangeAt Go.RowKit
set_option linter.unusedVariables false
set_option linter.unusedSimpArgs false

theorem takeM_room {S : SnM} {T : TrM} (h : S.l.length < 8) : ∃ x S', takeM S T = ((S.next, 0), S') ∧ S'.l = S.l ++ [x] ∧ x.id = S.next ∧ x.t = commitM T ∧ S'.next = S.next + 1 ∧ x.hash = S'.last ∧ S'.last = shaM (S.last ++ saveB (commitM T)) ∧ S'.last.length = 32 := by
  refine ⟨⟨S.next, shaM (S.last ++ saveB (commitM T)), commitM T⟩, _, by unfold takeM; rw [if_neg (by omega)], rfl, rfl, rfl, rfl, rfl, rfl, shaM_len _⟩
/-- The law's own: snapshots and a tree. -/
structure Sn13 (W : World) (o : Mark) (w : World) (b s t : Nat) (S : SnM) (T : TrM) : Prop where
  box : ∃ x y : Nat, w.heap[b]? = some (.cells #[ptr s, ptr t, ptr x, ptr y] 35 (0, 0))
  own : o b = 3
  low : b < w.heap.size
  marks : Marks W o w
  sn : SnapsO o 1 w s S
  tr : TreeO o 2 w t T
  ok : OkM T
  len : S.l.length ≤ 8
  last : S.last.length ≤ 64
  next : 0 ≤ S.next
section
variable {W w : World} {o : Mark} {b s t : Nat} {S : SnM} {T : TrM}
theorem Sn13.grow (h : Sn13 W o w b s t S T) {w' : World} (hb : Below w.heap.size w w') : Sn13 W o w' b s t S T := by
  obtain ⟨x, y, hx⟩ := h.box
  exact ⟨⟨x, y, (hb.block b h.low).trans hx⟩, h.own, Nat.lt_of_lt_of_le h.low hb.size, h.marks.step (I := fun _ => False) (fun e => e) (Step.grow h.marks hb), h.sn.grow h.marks hb, h.tr.grow hb, h.ok, h.len, h.last, h.next⟩
theorem Sn13.snaps (h : Sn13 W o w b s t S T) {w' : World} {o' : Mark} {S' : SnM} (hs : Step o (fun k => k = 1) w o' w') (hS : SnapsO o' 1 w' s S') (hl : S'.l.length ≤ 8) (hl2 : S'.last.length ≤ 64) (hn : 0 ≤ S'.next) : Sn13 W o' w' b s t S' T := by
  obtain ⟨x, y, hx⟩ := h.box
  have h0 : ¬ (fun k : Nat => k = 1) 0 := by simp
  exact ⟨⟨x, y, (hs.block h.low (by rw [h.own]; simp)).trans hx⟩, (hs.old b h.low).trans h.own, Nat.lt_of_lt_of_le h.low hs.keep.size, h.marks.step h0 hs, hS, h.tr.step h0 (by simp) hs, h.ok, hl, hl2, hn⟩
theorem Sn13.take (h : Sn13 W o w b s t S T) (hn : S.next ≤ 1000000000) : Calls Tryz.prog 9 #[ptr s, ptr t] w fun e w' => e = .returned (.tuple #[.int .i64 (takeM S T).1.1, .int .i64 (takeM S T).1.2]) ∧ ∃ o', Sn13 W o' w' b s t (takeM S T).2 T := by
  refine (take_any h.sn h.tr h.marks (by omega) h.ok h.len h.last h.next hn).mono ?_
  rintro e w' ⟨rfl, o', hs, hS⟩
  refine ⟨rfl, o', h.snaps hs hS ?_ ?_ ?_⟩
  all_goals
    by_cases hf : S.l.length < 8
    · obtain ⟨x, S', e1, e2, e3, e4, e5, e6, e7, e8⟩ := takeM_room (T := T) hf
      have := h.next
      rw [e1]
      first
        | (rw [e2, List.length_append]; simp; omega)
        | (rw [e8]; omega)
        | (rw [e5]; omega)
    · have e1 : takeM S T = ((0, 4), S) := by unfold takeM; rw [if_pos (by omega)]
      rw [e1]
      first
        | exact h.len
        | exact h.last
        | exact h.next
theorem ForgetR.next {S S' : SnM} {id now er : Int} (h : ForgetR S id now er S') : S'.next = S.next ∧ S'.last = S.last ∧ S'.l.length ≤ S.l.length := by
  rcases h with ⟨_, rfl, _⟩ | ⟨k, x, hx, _, _, h⟩
  · exact ⟨rfl, rfl, Nat.le_refl _⟩
  · rcases h with ⟨_, _, rfl⟩ | ⟨_, _, rfl⟩
    · exact ⟨rfl, rfl, Nat.le_refl _⟩
    · refine ⟨rfl, rfl, ?_⟩
      show (S.l.take k ++ S.l.drop (k + 1)).length ≤ _
      rw [List.length_append, List.length_take, List.length_drop]; omega
theorem Sn13.forget (h : Sn13 W o w b s t S T) (id now : Int) : Calls Tryz.prog 7 #[ptr s, .int .i64 id, .int .u64 now] w fun e w' => ∃ er S' o', e = .returned (.int .i64 er) ∧ ForgetR S id now er S' ∧ Sn13 W o' w' b s t S' T := by
  refine (forget_any h.sn h.marks (by omega) h.len id now).mono ?_
  rintro e w' ⟨er, S', o', rfl, hf, hs, hS⟩
  obtain ⟨e1, e2, e3⟩ := hf.next
  exact ⟨er, S', o', rfl, hf, h.snaps hs hS (Nat.le_trans e3 h.len) (by rw [e2]; exact h.last) (by rw [e1]; exact h.next)⟩
theorem Sn13.all (h : Sn13 W o w b s t S T) : Calls Tryz.prog 8 #[ptr s] w (NewInts w (allM S)) := all_any h.sn (by have := h.len; omega)
end
theorem rnew13_any (w : World) : Calls Tryz.prog 21 #[] w fun e w' => ∃ x, e = .returned (ptr x) ∧ Below w.heap.size w w' := by
  go_enter Tryz.func21, Tryz.ntmps21
  go_wp2
  go_ret
  exact ⟨_, rfl, wall w _⟩
theorem rnew11_any (w : World) : Calls Tryz.prog 22 #[] w fun e w' => ∃ x, e = .returned (ptr x) ∧ Below w.heap.size w w' := by
  go_enter Tryz.func22, Tryz.ntmps22
  go_wp2
  go_ret
  exact ⟨_, rfl, ((wall w _).trans ((wall _ _).mono (by simp))).trans ((wall _ _).mono (by simp; omega))⟩
theorem new2_any (W w : World) (o : Mark) (hM : Marks W o w) (j : Nat) (hj : j ≠ 0) : Calls Tryz.prog 20 #[] w fun e w' => ∃ p o', e = .returned (ptr p) ∧ Step o (fun k => k = j) w o' w' ∧ TreeO o' j w' p newM ∧ Below w.heap.size w w' := by
  refine (new_any w).mono ?_
  rintro e w' ⟨g, mb, ib, nb, p, rfl, hA, hg, hb⟩
  obtain ⟨o', hs, h1, h2⟩ := mark_new hM j (fun b => g b ≠ .none) (w' := w') (fun b hb' => ⟨hg b hb', hA.low b hb'⟩) hb
  exact ⟨p, o', rfl, hs, ⟨g, _, mb, ib, nb, hA, fun b hb' => h1 b hb', fun b hb' => hb'.elim⟩, hb⟩
set_option maxRecDepth 100000 in
set_option maxHeartbeats 4000000 in
theorem begin13_any (W : World) : Calls Tryz.prog 6 #[] W fun e w' => ∃ b s t o, e = .returned (ptr b) ∧ Sn13 W o w' b s t newSn newM := by
  have hM0 : Marks W (fun _ => 0) W := ⟨fun b hb => absurd rfl hb, Below.refl _ _⟩
  have HM0 := Lib.hid hM0
  clear hM0
  go_enter Tryz.func6, Tryz.ntmps6
  go_wp2_with fail
  (with_reducible refine (new_snaps HM0.out 1 (by omega)).mono ?_)
  rintro e w1 ⟨s, o1, rfl, hs1, hS1, hb1⟩
  have HM1 := Lib.hid (HM0.out.step (by simp) hs1)
  have HS1 := Lib.hid hS1
  clear hs1 hS1 hb1 HM0
  go_wp2_with fail
  (with_reducible refine (new2_any W w1 o1 HM1.out 2 (by omega)).mono ?_)
  rintro e w2 ⟨t, o2, rfl, hs2, hT2, hb2⟩
  have HM2 := Lib.hid (HM1.out.step (by simp) hs2)
  have HS2 := Lib.hid (HS1.out.step (by simp) (by simp) hs2)
  have HT2 := Lib.hid hT2
  clear hs2 hT2 hb2 HM1 HS1
  go_wp2_with fail
  (with_reducible refine (rnew13_any w2).mono ?_)
  rintro e w3 ⟨x, rfl, hb3⟩
  have HB3 := Lib.hid hb3
  clear hb3
  go_wp2_with fail
  (with_reducible refine (rnew11_any w3).mono ?_)
  rintro e w4 ⟨y, rfl, hb4⟩
  have HB4 := Lib.hid (HB3.out.trans (hb4.mono HB3.out.size))
  clear hb4 HB3
  go_wp2_with fail
  go_ret
  have hb5 : Below w2.heap.size w2 (w4.alloc (.cells #[ptr s, ptr t, ptr x, ptr y] 35)) := HB4.out.trans ((wall _ _).mono HB4.out.size)
  have hz := HB4.out.size
  obtain ⟨o', hs, h1, h2⟩ := mark_new HM2.out 3 (fun b => b = w4.heap.size) (w' := w4.alloc (.cells #[ptr s, ptr t, ptr x, ptr y] 35)) (fun b hb => by subst hb; simp; omega) hb5
  refine ⟨w4.heap.size, s, t, o', rfl, ⟨⟨x, y, (MapKept.heap_alloc w4 _).1⟩, h1 _ rfl, by simp, HM2.out.step (by simp) hs, HS2.out.step (by simp) (by simp) hs, HT2.out.step (by simp) (by simp) hs, newM_ok, by simp [newSn], by simp [newSn], by simp [newSn]⟩⟩
end Go.Proofs.YtpgklnhkfgbpgaaGreat
