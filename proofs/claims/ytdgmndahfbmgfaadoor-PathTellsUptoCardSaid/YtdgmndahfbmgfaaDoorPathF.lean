/- The reference's Split. -/
import Derived.Test.YtdgmndahfbmgfaaDoorPathE
namespace Go.Proofs.YtdgmndahfbmgfaaDoor
open Go.ChangeShapes Go.WideShapes Go.ChangeAt Go.RowKit
set_option linter.unusedVariables false

theorem drop_parts (l : List UInt8) (f i : Nat) (hi : i < l.length) (hf : f ≤ i) : l.drop f = (l.drop f).take (i - f) ++ l.getD i 0 :: l.drop (i + 1) := by
  have h1 : l.drop f = (l.drop f).take (i - f) ++ (l.drop f).drop (i - f) := (List.take_append_drop _ _).symm
  have h2 : (l.drop f).drop (i - f) = l.getD i 0 :: l.drop (i + 1) := by
    rw [List.drop_drop, show f + (i - f) = i by omega, List.drop_eq_getElem_cons hi]
    simp [List.getD, List.getElem?_eq_getElem hi]
  rw [h2] at h1
  exact h1
theorem cut_at (l : List UInt8) (f i : Nat) (hi : i < l.length) (hf : f ≤ i) (hn : ∀ c ∈ (l.drop f).take (i - f), c ≠ 47) (hc : l.getD i 0 = 47) : splitL (l.drop f) = (l.drop f).take (i - f) :: splitL (l.drop (i + 1)) := by
  have h1 := drop_parts l f i hi hf
  rw [hc] at h1
  exact (congrArg splitL h1).trans (splitL_at _ _ hn)
theorem cut_end (l : List UInt8) (f : Nat) (hf : f ≤ l.length) (hn : ∀ c ∈ (l.drop f).take (l.length - f), c ≠ 47) : splitL (l.drop f) = [(l.drop f).take (l.length - f)] := by
  have e : (l.drop f).take (l.length - f) = l.drop f := List.take_of_length_le (by simp)
  rw [e] at hn ⊢
  exact splitL_none _ hn
theorem go_on (l : List UInt8) (f i : Nat) (hi : i < l.length) (hf : f ≤ i) (hn : ∀ c ∈ (l.drop f).take (i - f), c ≠ 47) (hc : l.getD i 0 ≠ 47) : ∀ c ∈ (l.drop f).take (i + 1 - f), c ≠ 47 := by
  have e : (l.drop f).take (i + 1 - f) = (l.drop f).take (i - f) ++ [l.getD i 0] := by
    rw [show i + 1 - f = (i - f) + 1 by omega, List.take_add_one, List.getElem?_drop, show f + (i - f) = i by omega, List.getElem?_eq_getElem hi]
    simp [List.getD, List.getElem?_eq_getElem hi]
  intro c hcm
  rw [e] at hcm
  rcases List.mem_append.1 hcm with h | h
  · exact hn c h
  · rw [List.mem_singleton.1 h]; exact hc
theorem fine_bad (ls : List (List UInt8)) (x : List UInt8) (hx : x ∈ ls) (hg : goodL x = false) : fineL ls = 12 := by
  unfold fineL
  rw [if_pos]
  rw [List.any_eq_true]
  exact ⟨x, hx, by simp [hg]⟩
theorem fine_all (ls : List (List UInt8)) (hg : ls.all goodL = true) : fineL ls = if 8 < ls.length then 3 else 0 := by
  unfold fineL
  rw [if_neg]
  rw [List.any_eq_true]
  rintro ⟨x, hx, h⟩
  rw [List.all_eq_true] at hg
  simp [hg x hx] at h

theorem infoString : (Tryd.prog.info? 9).map (fun i => (i.zero, i.size, i.bytes)) = some (some (.string ByteArray.empty), 1, 16) := by kernel_rfl

/-- What the loop of the reference's Split keeps. -/
def SplitRel (l : List UInt8) (w : World) (v f i : Value) (wr : World) : Prop :=
  ∃ (a b : Nat) (ss : List ByteArray), f = .int .i64 a ∧ i = .int .i64 b ∧ wr.ownsRow w.heap.size 9 1 v ss.length (ss.map .string) ∧ Below w.heap.size w wr ∧ (bls ss).all goodL = true ∧ (∀ s ∈ ss, s.size ≤ maxLen) ∧ ss.length ≤ b ∧ 1 ≤ b ∧
    ((b ≤ l.length ∧ a ≤ b ∧ splitL (l.drop 1) = bls ss ++ splitL (l.drop a) ∧ ∀ c ∈ (l.drop a).take (b - a), c ≠ 47) ∨ (b = l.length + 1 ∧ a ≤ b ∧ splitL (l.drop 1) = bls ss))

theorem one_new (w : World) (v : Value) (t : TypeId) : ∀ j u, ([v] : List Value)[j]? = some u → (w.alloc (.cells #[v] t)).cell? ((⟨w.heap.size, 0, none⟩ : Addr).add j) = some u := by
  intro j u h
  cases j with
  | zero =>
    have hh : (w.alloc (.cells #[v] t)).heap[w.heap.size]? = some (.cells #[v] t) := (MapKept.heap_alloc w _).1
    have e : (⟨w.heap.size, 0, none⟩ : Addr).add 0 = ⟨w.heap.size, 0, none⟩ := rfl
    rw [e]
    simp only [World.cell?, hh]
    simpa using h
  | succ j => simp at h
theorem own_cap {w : World} {base : Nat} {e : TypeId} {size : Nat} {a : Option Addr} {n m cap : Nat} {xs : List Value} (h : w.ownsRow base e size (.slice a m cap) n xs) : m ≤ cap := by
  obtain ⟨_, h⟩ := h
  rcases h with ⟨h, _⟩ | ⟨g, cap', cur, h, _, _, h2, _⟩
  · simp only [Value.slice.injEq] at h; omega
  · simp only [Value.slice.injEq] at h; omega
theorem bls_append (x y : List ByteArray) : bls (x ++ y) = bls x ++ bls y := by simp [bls]
theorem below_own {w w1 : World} {base : Nat} {e : TypeId} {size : Nat} {v : Value} {n : Nat} {xs : List Value} (h : w.ownsRow base e size v n xs) (hb : Below w.heap.size w w1) : w1.ownsRow base e size v n xs :=
  h.kept (row := none) ⟨hb.os, hb.tape, hb.output, hb.size, fun k hk _ => hb.block k hk⟩ (by cases v <;> simp [Value.ownBlock] <;> (rename_i a _ _; cases a <;> simp))

set_option maxHeartbeats 1000000 in
theorem rsplit_any (s : ByteArray) (w : World) (hs : s.size < 4294967281) :
    Calls Tryd.prog 22 #[.string s] w (RetSplit w s.data.toList) := by
  obtain ⟨i0, hi, hz0, hz1, hz2⟩ := info_parts infoString
  obtain ⟨l, hl⟩ : ∃ l, s.data.toList = l := ⟨_, rfl⟩
  rw [hl]
  have hsl : s.size = l.length := by rw [← hl]; simp
  have hte := ByteArray.toList_eq s
  rw [hl] at hte
  have hby : ∀ k (h : k < s.size), s[k] = l.getD k 0 := fun k h => by rw [idx_byte s k h, hl]
  have ways : (l = [47] ∧ pathSplit l = ([], 0)) ∨ (l = [] ∧ pathSplit l = ([], 12)) ∨ (0 < l.length ∧ l ≠ [47] ∧ l.getD 0 0 ≠ 47 ∧ pathSplit l = ([], 12)) ∨
      (1 < l.length ∧ l ≠ [47] ∧ l.getD 0 0 = 47 ∧ pathSplit l = if fineL (splitL (l.drop 1)) = 0 then (splitL (l.drop 1), 0) else ([], fineL (splitL (l.drop 1)))) := by
    cases l with
    | nil => exact Or.inr (Or.inl ⟨rfl, rfl⟩)
    | cons c r =>
      by_cases h : c = 47
      · subst h
        by_cases hr : r = []
        · subst hr; exact Or.inl ⟨rfl, rfl⟩
        · refine Or.inr (Or.inr (Or.inr ⟨?_, by simpa using hr, rfl, by simp [pathSplit, hr]⟩))
          have := List.length_pos_iff.2 hr
          simp; omega
      · exact Or.inr (Or.inr (Or.inl ⟨by simp, by simp [h], by simpa using h, by simp [pathSplit, h]⟩))
  have nilret : ∀ (w' : World) (k : Int), Below w.heap.size w w' → pathSplit l = ([], k) → RetSplit w l (.returned (.tuple #[.slice none 0 0, .int .i64 k])) w' := fun w' k hb h => ⟨none, 0, 0, [], by rw [h], by simp, by rw [h]; rfl, ⟨RowAt.nil _ _ _, by simp⟩, hb⟩
  rcases ways with ⟨h1, h2⟩ | ⟨h1, h2⟩ | ⟨h0, h1, h2, h3⟩ | ⟨h0, h1, h2, h3⟩
  · have HP := Lib.hid h2
    subst h1
    clear h2 hsl hby hl
    go_enter Tryd.func22, Tryd.ntmps22
    go_wp2
    go_ret2
    exact nilret _ _ (Below.refl _ _) HP.out
  · have HP := Lib.hid h2
    subst h1
    have hz : s.size = 0 := hsl
    clear h2 hsl hby hl
    go_enter Tryd.func22, Tryd.ntmps22
    go_wp2
    go_ret2
    exact nilret _ _ (Below.refl _ _) HP.out
  · have HP := Lib.hid h3
    have e1 : (s.toList == [47]) = false := by rw [hte]; simpa using h1
    have e2 : ((s.size : Int) == 0) = false := beq_eq_false_iff_ne.2 (by omega)
    have hp : 0 < s.size := by omega
    have e3 := hby 0 hp
    obtain ⟨c, hc⟩ : ∃ c, c = l.getD 0 0 := ⟨_, rfl⟩
    rw [← hc] at e3 h2
    have e4 : ((c.toNat : Int) != 47) = true := by
      rw [bne_iff_ne]; intro e; apply h2; rw [← UInt8.toNat_inj]; show c.toNat = 47; omega
    clear h1 h2 h3 hsl hby hl hte hc
    go_enter Tryd.func22, Tryd.ntmps22
    go_wp2
    go_ret2
    exact nilret _ _ (Below.refl _ _) HP.out
  · have HP := Lib.hid h3
    have e1 : (s.toList == [47]) = false := by rw [hte]; simpa using h1
    have e2 : ((s.size : Int) == 0) = false := beq_eq_false_iff_ne.2 (by omega)
    have hp : 0 < s.size := by omega
    have e3 := hby 0 hp
    rw [h2] at e3
    have HBY := Lib.hid hby
    have HSL := Lib.hid hsl
    have hpl : ∀ a b : Nat, (s.extract a b).data.toList = (l.drop a).take (b - a) := fun a b => by rw [Lib.extract_data, hl]
    have HPL := Lib.hid hpl
    clear h1 h2 h3 hsl hby hl hte hpl
    go_enter Tryd.func22, Tryd.ntmps22
    go_wp2
    go_loopw [4, 5, 6] (SplitRel l w) (fun _ _ i _ => l.length + 1 - (intOf i).toNat)
    case atStart => exact ⟨1, 1, [], rfl, rfl, World.ownsRow_nil _ _ _ _, Below.refl _ _, rfl, by simp, by simp, by omega, Or.inl ⟨by omega, by omega, rfl, by simp⟩⟩
    case round =>
      obtain ⟨a, b, ss, rfl, rfl, hown, hb, hall, hsh, hle, hb1, hcase⟩ := hrel
      have HALL := Lib.hid hall
      have HSH := Lib.hid hsh
      clear hall hsh
      have hbs : ss.length ≤ 4294967282 := by have := HSL.out; rcases hcase with h | h <;> omega
      rcases hcase with ⟨hbl, hab, hsp, hno⟩ | ⟨hbl, hab, hsp⟩
      · have hbl' : b ≤ s.size := by have := HSL.out; omega
        have HSP := Lib.hid hsp
        have HNO := Lib.hid hno
        clear hsp hno
        -- is here a cut?
        by_cases hcut : b = l.length ∨ l.getD b 0 = 47
        · have hsplit : Hid (splitL (l.drop a) = (l.drop a).take (b - a) :: (if b = l.length then [] else splitL (l.drop (b + 1)))) := by
            by_cases hbe : b = l.length
            · subst hbe
              rw [if_pos rfl]
              exact cut_end l a hab HNO.out
            · rw [if_neg hbe]
              exact cut_at l a b (by omega) hab HNO.out (by rcases hcut with h | h; exact absurd h hbe; exact h)
          have hpsz : (s.extract a b).size ≤ maxLen := by
            have : (s.extract a b).size ≤ s.size := by simp [ByteArray.size_extract]; omega
            unfold maxLen; omega
          have hone : Hid (bls [s.extract a b] = [(l.drop a).take (b - a)]) := by
            show bls [s.extract a b] = _
            simp only [bls, List.map_cons, List.map_nil]
            rw [HPL.out]
          have hnext : Hid (goodL ((l.drop a).take (b - a)) = true → ∀ (v : Value) (w2 : World), w2.ownsRow w.heap.size 9 1 v (ss.length + 1) (ss.map Value.string ++ [.string (s.extract a b)]) → Below w.heap.size w w2 → SplitRel l w v (.int .i64 ((b : Int) + 1)) (.int .i64 ((b : Int) + 1)) w2) := by
            intro hg v w2 ho hbw
            refine ⟨b + 1, b + 1, ss ++ [s.extract a b], by go_num, by go_num, by simpa using ho, hbw, ?_, ?_, by simp; omega, by omega, ?_⟩
            · rw [bls_append, hone.out, List.all_append, HALL.out, List.all_cons, hg]; rfl
            · intro x hx
              rcases List.mem_append.1 hx with hx | hx
              · exact HSH.out x hx
              · rw [List.mem_singleton.1 hx]; exact hpsz
            · by_cases hbe : b = l.length
              · refine Or.inr ⟨by omega, Nat.le_refl _, ?_⟩
                have h5 := hsplit.out
                rw [if_pos hbe] at h5
                rw [HSP.out, h5, bls_append, hone.out]
              · refine Or.inl ⟨by omega, Nat.le_refl _, ?_, by simp⟩
                have h5 := hsplit.out
                rw [if_neg hbe] at h5
                rw [HSP.out, h5, bls_append, hone.out, List.append_assoc]; rfl
          have hbad : Hid (goodL ((l.drop a).take (b - a)) = false → pathSplit l = ([], 12)) := by
            intro hg
            have h5 := hsplit.out
            have h6 : (l.drop a).take (b - a) ∈ splitL (l.drop 1) := by
              rw [HSP.out, h5]; simp
            have h7 := fine_bad _ _ h6 hg
            rw [HP.out, h7]; rfl
          have hcut2 : (((b : Int) == (s.size : Int)) = true) ∨ (((b : Int) == (s.size : Int)) = false ∧ ∃ h : b < s.size, s[b] = 47) := by
            have := HSL.out
            by_cases hbe : b = l.length
            · left; simp; omega
            · right
              refine ⟨beq_eq_false_iff_ne.2 (by omega), by omega, ?_⟩
              rw [HBY.out b (by omega)]
              rcases hcut with h | h
              · exact absurd h hbe
              · exact h
          have hgp : goodL (s.extract a b).data.toList = goodL ((l.drop a).take (b - a)) := by rw [HPL.out]
          have HGP := Lib.hid hgp
          clear hcut hgp
          cases hg : goodL ((l.drop a).take (b - a))
          · have HG : Hid (goodL (s.extract a b).data.toList = false) := by rw [HGP.out]; exact hg
            have HB := hbad.out hg
            have HB2 := Lib.hid HB
            clear hg HB hnext hbad
            rcases hcut2 with hc | ⟨hc, hlt, hc2⟩
            all_goals
              go_wp2_with fail
              refine (rgood_any _ _ hpsz).mono ?_
              rintro e w1 ⟨rfl, hb2⟩
              rw [HG.out]
              go_wp2_with fail
              go_ret2
              exact nilret _ _ (hb.trans (hb2.mono hb.size)) HB2.out
          · have HG : Hid (goodL (s.extract a b).data.toList = true) := by rw [HGP.out]; exact hg
            have HN : Hid (∀ (v : Value) (w2 : World), w2.ownsRow w.heap.size 9 1 v (ss.length + 1) (ss.map Value.string ++ [.string (s.extract a b)]) → Below w.heap.size w w2 → SplitRel l w v (.int .i64 ((b : Int) + 1)) (.int .i64 ((b : Int) + 1)) w2) := hnext.out hg
            clear hg hnext hbad
            rcases hcut2 with hc | ⟨hc, hlt, hc2⟩
            all_goals
              go_wp2_with fail
              refine (rgood_any _ _ hpsz).mono ?_
              rintro e w1 ⟨rfl, hb2⟩
              rw [HG.out]
              have hown1 := below_own hown hb2
              have hb3 := hb.trans (hb2.mono hb.size)
              have hz3 := hb3.size
              go_wp2_with (at_builtin; refine wpList_append_own _ rfl _ _ 22 rfl w.heap.size 9 i0 (.string ByteArray.empty) 1 16 Tryd.underlying22 hi hz0 hz1 hz2 rfl (by decide) _ _ _ rfl (hown1.alloc _) ⟨w1.heap.size, 0, none⟩ 1 1 [.string (s.extract a b)] rfl rfl (one_new _ _ _) (by simp [Value.oneCell']) (by unfold maxLen; omega) (by omega) (by simp; omega) ?_; intro v' w2 hown2 hgrow _)
              go_roundw
              case rel => exact HN.out v' w2 (by simpa using hown2) ((hb3.alloc hz3 _).grown hgrow (by simp; omega) (fun k hk => (hown1.lt k hk).1))
              case measure => simp [intOf]; omega
        · have hlt : b < s.size := by have := HSL.out; omega
          have hc : ((b : Int) == (s.size : Int)) = false := beq_eq_false_iff_ne.2 (by omega)
          have hne : l.getD b 0 ≠ 47 := fun e => hcut (Or.inr e)
          have hxb := HBY.out b hlt
          obtain ⟨c, hcc⟩ : ∃ c, c = l.getD b 0 := ⟨_, rfl⟩
          rw [← hcc] at hxb hne
          have e4 : ((c.toNat : Int) == 47) = false := by
            rw [beq_eq_false_iff_ne]; intro e; apply hne; rw [← UInt8.toNat_inj]; show c.toNat = 47; omega
          have HNO2 : Hid (∀ c ∈ (l.drop a).take (b + 1 - a), c ≠ 47) := go_on l a b (by have := HSL.out; omega) hab HNO.out (by rw [← hcc]; exact hne)
          clear hcut hcc hne
          go_wp2
          go_roundw
          case rel => exact ⟨a, b + 1, ss, rfl, by go_num, hown, hb, HALL.out, HSH.out, by omega, by omega, Or.inl ⟨by have := HSL.out; omega, by omega, HSP.out, HNO2.out⟩⟩
          case measure => simp [intOf]; omega
      · have hge : ¬ (b : Int) ≤ (s.size : Int) := by have := HSL.out; omega
        have HSP := Lib.hid hsp
        clear hsp
        obtain ⟨a1, cap1, rfl, hS⟩ := own_strs hown HSH.out
        have hcap := own_cap hown
        have hlen : (splitL (l.drop 1)).length = ss.length := by rw [HSP.out, bls_len]
        have hfin := fine_all (splitL (l.drop 1)) (by rw [HSP.out]; exact HALL.out)
        rw [hlen] at hfin
        by_cases h8 : 8 < ss.length
        · have HR : Hid (pathSplit l = ([], 3)) := by
            show pathSplit l = _
            rw [HP.out, hfin, if_pos h8]; rfl
          have h8' : (8 : Int) < (ss.length : Int) := by omega
          clear hlen hfin
          go_wp2
          go_ret2
          exact nilret _ _ hb HR.out
        · have HR : Hid (pathSplit l = (bls ss, 0)) := by
            show pathSplit l = _
            rw [HP.out, hfin, if_neg h8, HSP.out]; rfl
          clear hlen hfin
          go_wp2
          go_ret2
          exact ⟨a1, ss.length, cap1, ss, by rw [HR.out]; rfl, hcap, by rw [HR.out], hS, hb⟩
end Go.Proofs.YtdgmndahfbmgfaaDoor
