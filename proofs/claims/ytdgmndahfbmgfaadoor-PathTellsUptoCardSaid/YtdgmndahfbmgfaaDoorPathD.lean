/- path.Join, path.Split. -/
import Derived.Test.YtdgmndahfbmgfaaDoorPathC
namespace Go.Proofs.YtdgmndahfbmgfaaDoor
open Go.ChangeShapes Go.WideShapes Go.ChangeAt Go.RowKit
set_option linter.unusedVariables false

def bmk (l : List UInt8) : ByteArray := ⟨l.toArray⟩
theorem bmk_data (l : List UInt8) : (bmk l).data.toList = l := rfl
theorem bmk_eta (s : ByteArray) : bmk s.data.toList = s := by cases s; rfl
theorem bmk_size (l : List UInt8) : (bmk l).size = l.length := by simp [bmk, ByteArray.size]
theorem bls_len (ss : List ByteArray) : (bls ss).length = ss.length := by simp [bls]

theorem ret_str {a b : ByteArray} (h : a = b) : Ending.returned (.string a) = .returned (.string b) := by rw [h]

theorem strs_new {w : World} {e : TypeId} {ss : List ByteArray} {n : Nat} (hn : ss.length = n) (hm : n ≤ maxLen) (hs : ∀ s ∈ ss, s.size ≤ maxLen) : StrsAt (Fresh w.heap.size) (w.alloc (.cells (ss.map Value.string).toArray e)) (some ⟨w.heap.size, 0, none⟩) n ss := by
  refine ⟨⟨by simpa using hn, hm, fun _ => ⟨w.heap.size, 0, rfl, Nat.le_refl _, by simp, fun i hi => ?_⟩⟩, hs⟩
  have hh : (w.alloc (.cells (ss.map Value.string).toArray e)).heap[w.heap.size]? = some (.cells (ss.map Value.string).toArray e) := (MapKept.heap_alloc w _).1
  simp only [World.cell?, hh, Nat.zero_add]
  simp
theorem bls_any (ss : List ByteArray) : ss.any badS = (bls ss).any (fun x => !goodL x) := by
  unfold bls; rw [List.any_map]; rfl
theorem fine_bls (ss : List ByteArray) : fineE ss = fineL (bls ss) := by
  unfold fineE fineL; rw [bls_any, bls_len]

theorem joinLib_any {S : Nat → Prop} (a : Option Addr) (len cap : Nat) (ss : List ByteArray) (w : World) (h : StrsAt S w a len ss) (hcap : len ≤ cap)
    (hlen : (Lib.join (bls ss) [47]).length ≤ 140737488355328) (hn : len ≤ 140737488355328) :
    Calls Tryd.prog 21 #[.slice a len cap, .string ⟨#[47]⟩] w fun e w' => e = .returned (.string (bmk (Lib.join (bls ss) [47]))) ∧ Below w.heap.size w w' := by
  have hl := h.length
  by_cases h0 : len = 0
  · subst h0
    obtain rfl : ss = [] := by simpa using hl
    refine (Tryd.strings_Join_none a cap ⟨#[47]⟩ w).mono ?_
    rintro e w' ⟨rfl, rfl⟩
    exact ⟨rfl, Below.refl _ _⟩
  · obtain ⟨b, off, rfl, _, hbw, _⟩ := h.row.at_ (by omega)
    subst hl
    refine (Tryd.strings_Join b off cap ss ⟨#[47]⟩ w (fun j x hx => ?_) hbw hn hcap hlen).mono ?_
    · have hj := (List.getElem?_eq_some_iff.1 hx).1
      rw [strs_getD h j hj]
      simp [List.getD, hx]
    · rintro e w' ⟨rfl, hb⟩
      exact ⟨rfl, hb⟩

theorem join_any {S : Nat → Prop} (a : Option Addr) (len cap : Nat) (ss : List ByteArray) (w : World) (h : StrsAt S w a len ss) (hcap : len ≤ cap)
    (hlen : (Lib.join (bls ss) [47]).length ≤ 140737488355327) (hn : len ≤ 140737488355328) :
    Calls Tryd.prog 9 #[.slice a len cap] w fun e w' => e = .returned (.string (bmk (pathJoin (bls ss)))) ∧ Below w.heap.size w w' := by
  have hsz : (bmk (Lib.join (bls ss) [47])).size ≤ 140737488355327 := by rw [bmk_size]; exact hlen
  go_enter Tryd.func9, Tryd.ntmps9
  go_wp2_with fail
  refine (joinLib_any _ _ _ ss _ h hcap (by omega) hn).mono ?_
  rintro e w1 ⟨rfl, hb⟩
  go_wp2_with fail
  go_ret
  refine ⟨ret_str (WideShapes.bytes_inj ?_), hb⟩
  simp [bmk_data, pathJoin]

def RetSplit (w : World) (l : List UInt8) (e : Ending) (w' : World) : Prop :=
  ∃ a len cap ss, e = .returned (.tuple #[.slice a len cap, .int .i64 (pathSplit l).2]) ∧ len ≤ cap ∧ bls ss = (pathSplit l).1 ∧ StrsAt (Fresh w.heap.size) w' a len ss ∧ Below w.heap.size w w'

theorem split_any (s : ByteArray) (w : World) (hs : s.size < 4294967281) (m : Int) (hm : w.cell? ⟨0, 0, none⟩ = some (.int .i64 m)) :
    Calls Tryd.prog 8 #[.string s] w (RetSplit w s.data.toList) := by
  obtain ⟨l, hl⟩ : ∃ l, s.data.toList = l := ⟨_, rfl⟩
  rw [hl]
  have hsl : s.size = l.length := by rw [← hl]; simp
  have HC := Tryd.strings_CutPrefix s ⟨#[47]⟩
  rw [hl] at HC
  have ways : (Lib.hasPrefix l [47] = false ∧ pathSplit l = ([], 12)) ∨ (l = [47] ∧ pathSplit l = ([], 0)) ∨ (∃ r, r ≠ [] ∧ l = 47 :: r ∧ pathSplit l = if fineL (splitL r) = 0 then (splitL r, 0) else ([], fineL (splitL r))) := by
    cases l with
    | nil => exact Or.inl ⟨rfl, rfl⟩
    | cons c r =>
      by_cases h : c = 47
      · subst h
        by_cases hr : r = []
        · subst hr; exact Or.inr (Or.inl ⟨rfl, rfl⟩)
        · exact Or.inr (Or.inr ⟨r, hr, rfl, by simp [pathSplit, hr]⟩)
      · refine Or.inl ⟨?_, by simp [pathSplit, h]⟩
        simp [Lib.hasPrefix, List.isPrefixOf]
        exact fun e => h e.symm
  clear hl
  rcases ways with ⟨h1, h2⟩ | ⟨h1, h2⟩ | ⟨r, h1, h2, h3⟩
  · have HP := Lib.hid h2
    rw [h1] at HC
    clear h1 h2 hsl
    go_enter Tryd.func8, Tryd.ntmps8
    go_wp2_with fail
    refine (HC _).mono ?_
    rintro e w1 ⟨rfl, rfl⟩
    clear HC
    go_wp2_with fail
    go_ret2
    exact ⟨none, 0, 0, [], by rw [HP.out]; rfl, by simp, by rw [HP.out]; rfl, ⟨RowAt.nil _ _ _, by simp⟩, Below.refl _ _⟩
  · have HP := Lib.hid h2
    subst h1
    clear h2 hsl
    rw [show Lib.trimPrefix [47] [47] = [] from rfl, show Lib.hasPrefix [47] [47] = true from rfl] at HC
    go_enter Tryd.func8, Tryd.ntmps8
    go_wp2_with fail
    refine (HC _).mono ?_
    rintro e w1 ⟨rfl, rfl⟩
    clear HC
    go_wp2_with fail
    go_ret2
    exact ⟨none, 0, 0, [], by rw [HP.out]; rfl, by simp, by rw [HP.out]; rfl, ⟨RowAt.nil _ _ _, by simp⟩, Below.refl _ _⟩
  · subst h2
    have HP := Lib.hid h3
    clear h3
    have e1 : Lib.trimPrefix (47 :: r) [47] = r := by simp [Lib.trimPrefix, Lib.hasPrefix, List.isPrefixOf]
    have e2 : Lib.hasPrefix (47 :: r) [47] = true := by simp [Lib.hasPrefix, List.isPrefixOf]
    rw [show (⟨#[47]⟩ : ByteArray).data.toList = [47] from rfl, e1, e2] at HC
    clear e1 e2
    obtain ⟨t, ht⟩ : ∃ t, t = bmk r := ⟨_, rfl⟩
    have ht' : (⟨r.toArray⟩ : ByteArray) = t := ht.symm
    rw [ht'] at HC
    have htl : t.data.toList = r := by rw [ht]; rfl
    have hts : t.size = r.length := by rw [ht, bmk_size]
    have hte := ByteArray.toList_eq t
    rw [htl] at hte
    have ht1 : ¬ t.toList = [] := by rw [hte]; exact h1
    have ht2 : t.toList.isEmpty = false := by rw [hte]; simpa using h1
    have hsz : t.size < 4294967281 := by rw [hts]; simp at hsl; omega
    clear ht ht' hte
    obtain ⟨hB, hcn⟩ := splitB_ours t
    rw [htl] at hB hcn
    have hlen : (Lib.splitB ⟨#[47]⟩ 0 (Lib.countB t ⟨#[47]⟩) t).length = Lib.countB t ⟨#[47]⟩ + 1 := by
      have := congrArg List.length hB
      rw [List.length_map, splitL_length] at this
      omega
    have hcl : Lib.countB t ⟨#[47]⟩ + 1 ≤ r.length + 1 := by rw [hcn]; have := List.count_le_length (a := (47 : UInt8)) (l := r); omega
    have hshort : ∀ x ∈ Lib.splitB ⟨#[47]⟩ 0 (Lib.countB t ⟨#[47]⟩) t, x.size ≤ maxLen := by
      intro x hx
      have h5 : x.data.toList ∈ splitL r := by rw [← hB]; exact List.mem_map.2 ⟨x, hx, rfl⟩
      have := splitL_le r _ h5
      have h6 : x.data.toList.length = x.size := by simp
      unfold maxLen
      omega
    obtain ⟨ss, hss⟩ : ∃ ss, ss = Lib.splitB ⟨#[47]⟩ 0 (Lib.countB t ⟨#[47]⟩) t := ⟨_, rfl⟩
    have HS := Tryd.strings_Split t ⟨#[47]⟩ m w hsz hm (by decide)
    obtain ⟨n, hn⟩ : ∃ n, n = Lib.countB t ⟨#[47]⟩ + 1 := ⟨_, rfl⟩
    rw [← hss, ← hn] at HS
    rw [← hss] at hB hlen hshort
    rw [← hn] at hlen hcl
    have hnm : n ≤ maxLen := by unfold maxLen; omega
    have HSt := strs_new (w := w) (e := 9) hlen hnm hshort
    have HF := fine_any (S := Fresh w.heap.size) (some ⟨w.heap.size, 0, none⟩) n n ss _ HSt
    rw [fine_bls, show bls ss = splitL r from hB] at HF
    have HB := Lib.hid hB
    clear hB hlen hshort hss hn hcn hcl hnm htl hts hsl
    cases hf : (fineL (splitL r) != 0)
    · have hf0 : fineL (splitL r) = 0 := by simpa using hf
      have HF0 := Lib.hid hf0
      clear hf0
      go_enter Tryd.func8, Tryd.ntmps8
      go_wp2_with fail
      refine (HC _).mono ?_
      rintro e w1 ⟨rfl, rfl⟩
      clear HC
      go_wp2_with fail
      refine HS.mono ?_
      rintro e w1 ⟨rfl, rfl⟩
      go_wp2_with fail
      refine HF.mono ?_
      rintro e w1 ⟨rfl, hb⟩
      go_wp2_with fail
      go_ret2
      refine ⟨_, n, n, ss, by rw [HP.out, if_pos HF0.out]; rfl, Nat.le_refl _, by rw [HP.out, if_pos HF0.out]; exact HB.out, HSt.below hb (by simp), ((Below.refl _ _).alloc (Nat.le_refl _) _).trans (hb.mono (by simp))⟩
    · have hf0 : fineL (splitL r) ≠ 0 := by simpa using hf
      have HF0 := Lib.hid hf0
      clear hf0
      go_enter Tryd.func8, Tryd.ntmps8
      go_wp2_with fail
      refine (HC _).mono ?_
      rintro e w1 ⟨rfl, rfl⟩
      clear HC
      go_wp2_with fail
      refine HS.mono ?_
      rintro e w1 ⟨rfl, rfl⟩
      go_wp2_with fail
      refine HF.mono ?_
      rintro e w1 ⟨rfl, hb⟩
      go_wp2_with fail
      go_ret2
      refine ⟨none, 0, 0, [], by rw [HP.out, if_neg HF0.out]; rfl, by simp, by rw [HP.out, if_neg HF0.out]; rfl, ⟨RowAt.nil _ _ _, by simp⟩, ((Below.refl _ _).alloc (Nat.le_refl _) _).trans (hb.mono (by simp))⟩
end Go.Proofs.YtdgmndahfbmgfaaDoor
