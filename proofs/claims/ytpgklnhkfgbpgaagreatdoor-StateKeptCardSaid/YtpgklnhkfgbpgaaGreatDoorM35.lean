/- path.Join; what Names of package tree orders by. path.Split. package state: paths: what it gives. package state: paths, kinds 1 2 3 8. -/
import Derived.Test.YtpgklnhkfgbpgaaGreatDoorM34
namespace Go.Proofs.YtpgklnhkfgbpgaaGreatDoor
open Go.ChangeShapes Go.WideShapes Go.ChangeAt Go.RowKit
set_option linter.unusedVariables false
set_option linter.unusedSimpArgs false

def bmk (l : List UInt8) : ByteArray := ⟨l.toArray⟩
theorem bmk_data (l : List UInt8) : (bmk l).data.toList = l := rfl
theorem bmk_size (l : List UInt8) : (bmk l).size = l.length := by simp [bmk, ByteArray.size]
theorem retJ_str {a b : ByteArray} (h : a = b) : Ending.returned (.string a) = .returned (.string b) := by rw [h]
theorem joinLib_any {S : Nat → Prop} (a : Option Addr) (len cap : Nat) (ss : List ByteArray) (w : World) (h : StrsAt S w a len ss) (hcap : len ≤ cap)
    (hlen : (Lib.join (bls ss) [47]).length ≤ 140737488355328) (hn : len ≤ 140737488355328) :
    Calls Tryz.prog 120 #[.slice a len cap, .string ⟨#[47]⟩] w fun e w' => e = .returned (.string (bmk (Lib.join (bls ss) [47]))) ∧ Below w.heap.size w w' := by
  have hl := h.length
  by_cases h0 : len = 0
  · subst h0
    obtain rfl : ss = [] := by simpa using hl
    refine (Tryz.strings_Join_none a cap ⟨#[47]⟩ w).mono ?_
    rintro e w' ⟨rfl, rfl⟩
    exact ⟨rfl, Below.refl _ _⟩
  · obtain ⟨b, off, rfl, _, hbw, _⟩ := h.row.at_ (by omega)
    subst hl
    refine (Tryz.strings_Join b off cap ss ⟨#[47]⟩ w (fun j x hx => ?_) hbw hn hcap hlen).mono ?_
    · have hj := (List.getElem?_eq_some_iff.1 hx).1
      rw [strs_getD h j hj]
      simp [List.getD, hx]
    · rintro e w' ⟨rfl, hb⟩
      exact ⟨rfl, hb⟩
theorem join_any {S : Nat → Prop} (a : Option Addr) (len cap : Nat) (ss : List ByteArray) (w : World) (h : StrsAt S w a len ss) (hcap : len ≤ cap)
    (hlen : (Lib.join (bls ss) [47]).length ≤ 140737488355327) (hn : len ≤ 140737488355328) :
    Calls Tryz.prog 76 #[.slice a len cap] w fun e w' => e = .returned (.string (bmk (pathJoin (bls ss)))) ∧ Below w.heap.size w w' := by
  have hsz : (bmk (Lib.join (bls ss) [47])).size ≤ 140737488355327 := by rw [bmk_size]; exact hlen
  go_enter Tryz.func76, Tryz.ntmps76
  go_wp2_with fail
  refine (joinLib_any _ _ _ ss _ h hcap (by omega) hn).mono ?_
  rintro e w1 ⟨rfl, hb⟩
  go_wp2_with fail
  go_ret
  refine ⟨retJ_str (WideShapes.bytes_inj ?_), hb⟩
  simp [bmk_data, pathJoin]
/-- A path that is small. -/
def Small (q : List Nm) : Prop := q.length ≤ 64 ∧ ∀ n ∈ q, n.length ≤ 16
theorem lens_small : ∀ (q : List Nm), (∀ n ∈ q, n.length ≤ 16) → Lib.lens q ≤ 16 * q.length
  | [], _ => by simp [Lib.lens]
  | x :: r, h => by
    have h1 := h x (by simp)
    have h2 := lens_small r fun n hn => h n (by simp [hn])
    simp only [Lib.lens, List.map_cons, List.sum_cons, List.length_cons] at h2 ⊢
    omega
theorem join_small {q : List Nm} (h : Small q) : (Lib.join q [47]).length ≤ 2000 := by
  cases q with
  | nil => simp [Lib.join_nil]
  | cons x r =>
    have h1 := lens_small _ h.2
    have h2 := h.1
    rw [Lib.join_length]
    simp only [List.length_cons, List.length_nil] at h1 h2 ⊢
    omega
theorem joinV_any {S : Nat → Prop} {w : World} {u : Value} {q : List Nm} (h : PathV S w u q) (hq : Small q) : Calls Tryz.prog 76 #[u] w fun e w' => e = .returned (.string (bmk (pathJoin q))) ∧ Below w.heap.size w w' := by
  obtain ⟨a, c, rfl, hc, hs⟩ := h
  have hj := join_small hq
  have hl := hq.1
  have := join_any a q.length c (q.map strOf) w hs hc (by rw [bls_strOf]; omega) (by omega)
  rw [bls_strOf] at this
  exact this
/-- The closure that Names sorts by. -/
theorem nameCmp_any {S1 S2 : Nat → Prop} {w : World} {u1 u2 : Value} {q1 q2 : List Nm} (h1 : PathV S1 w u1 q1) (h2 : PathV S2 w u2 q2) (hq1 : Small q1) (hq2 : Small q2) :
    Calls Tryz.prog 74 #[u1, u2] w fun e w' => e = .returned (.int .i64 (Lib.compareBytes (pathJoin q1) (pathJoin q2))) ∧ Below w.heap.size w w' := by
  have HJ1 := Lib.hid (joinV_any h1 hq1)
  have HJ2 : Hid (∀ w', Below w.heap.size w w' → Calls Tryz.prog 76 #[u2] w' fun e w'' => e = .returned (.string (bmk (pathJoin q2))) ∧ Below w'.heap.size w' w'') := fun w' hb => joinV_any (h2.move (S' := fun _ => True) hb.size fun b hb' hbw => ⟨trivial, hb.block b hbw⟩) hq2
  have HC := Tryz.strings_Compare (bmk (pathJoin q1)) (bmk (pathJoin q2))
  rw [bmk_data, bmk_data] at HC
  obtain ⟨J1, hj1⟩ : ∃ J1, J1 = bmk (pathJoin q1) := ⟨_, rfl⟩
  obtain ⟨J2, hj2⟩ : ∃ J2, J2 = bmk (pathJoin q2) := ⟨_, rfl⟩
  obtain ⟨z, hz⟩ : ∃ z, z = Lib.compareBytes (pathJoin q1) (pathJoin q2) := ⟨_, rfl⟩
  rw [← hj1] at HJ1 HC
  rw [← hj2] at HJ2 HC
  rw [← hz] at HC ⊢
  have HCC := Lib.hid HC
  clear hj1 hj2 hz HC h1 h2
  go_enter Tryz.func74, Tryz.ntmps74
  go_wp2_with fail
  (with_reducible refine HJ1.out.mono ?_)
  rintro e w1 ⟨rfl, hb1⟩
  have HB1 := Lib.hid hb1
  clear hb1
  go_wp2_with fail
  (with_reducible refine (HJ2.out w1 HB1.out).mono ?_)
  rintro e w2 ⟨rfl, hb2⟩
  have HB2 := Lib.hid (HB1.out.trans (hb2.mono HB1.out.size))
  clear hb2
  go_wp2_with fail
  (with_reducible refine (HCC.out _).mono ?_)
  rintro e w3 ⟨rfl, rfl⟩
  go_wp2_with fail
  go_ret
  exact ⟨rfl, HB2.out⟩
end Go.Proofs.YtpgklnhkfgbpgaaGreatDoor
namespace Go.Proofs.YtpgklnhkfgbpgaaGreatDoor
open Go.ChangeShapes Go.WideShapes Go.ChangeAt Go.RowKit
set_option linter.unusedVariables false

theorem bls_len (ss : List ByteArray) : (bls ss).length = ss.length := by simp [bls]


theorem strs_new {w : World} {e : TypeId} {ss : List ByteArray} {n : Nat} (hn : ss.length = n) (hm : n ≤ maxLen) (hs : ∀ s ∈ ss, s.size ≤ maxLen) : StrsAt (Fresh w.heap.size) (w.alloc (.cells (ss.map Value.string).toArray e)) (some ⟨w.heap.size, 0, none⟩) n ss := by
  refine ⟨⟨by simpa using hn, hm, fun _ => ⟨w.heap.size, 0, rfl, Nat.le_refl _, by simp, fun i hi => ?_⟩⟩, hs⟩
  have hh : (w.alloc (.cells (ss.map Value.string).toArray e)).heap[w.heap.size]? = some (.cells (ss.map Value.string).toArray e) := (MapKept.heap_alloc w _).1
  simp only [World.cell?, hh, Nat.zero_add]
  simp
theorem bls_any (ss : List ByteArray) : ss.any badS = (bls ss).any (fun x => !goodL x) := by
  unfold bls; rw [List.any_map]; rfl
theorem fine_bls (ss : List ByteArray) : fineE ss = fineL (bls ss) := by
  unfold fineE fineL; rw [bls_any, bls_len]


def RetSplit (w : World) (l : List UInt8) (e : Ending) (w' : World) : Prop :=
  ∃ a len cap ss, e = .returned (.tuple #[.slice a len cap, .int .i64 (pathSplit l).2]) ∧ len ≤ cap ∧ bls ss = (pathSplit l).1 ∧ StrsAt (Fresh w.heap.size) w' a len ss ∧ Below w.heap.size w w'

theorem split_any (s : ByteArray) (w : World) (hs : s.size < 4294967281) (m : Int) (hm : w.cell? ⟨0, 0, none⟩ = some (.int .i64 m)) :
    Calls Tryz.prog 79 #[.string s] w (RetSplit w s.data.toList) := by
  obtain ⟨l, hl⟩ : ∃ l, s.data.toList = l := ⟨_, rfl⟩
  rw [hl]
  have hsl : s.size = l.length := by rw [← hl]; simp
  have HC := Tryz.strings_CutPrefix s ⟨#[47]⟩
  rw [hl] at HC
  have ways : (Lib.hasPrefix l [47] = false ∧ pathSplit l = ([], 12)) ∨ (l = [47] ∧ pathSplit l = ([], 0)) ∨ (∃ r, r ≠ [] ∧ l = 47 :: r ∧ pathSplit l = if fineL (splitL r) = 0 then (splitL r, 0) else ([], fineL (splitL r))) := by
    cases l with
    | nil => exact Or.inl ⟨rfl, rfl⟩
    | cons c r =>
      by_cases h : c = 47
      · subst h
        by_cases hr : r = []
        · subst hr; exact Or.inr (Or.inl ⟨rfl, rfl⟩)
        · exact Or.inr (Or.inr ⟨r, hr, rfl, by simp [pathSplit, hr]⟩)
      · refine Or.inl ⟨?_, by simp [pathSplit, h]⟩
        simp [Lib.hasPrefix, List.isPrefixOf]
        exact fun e => h e.symm
  clear hl
  rcases ways with ⟨h1, h2⟩ | ⟨h1, h2⟩ | ⟨r, h1, h2, h3⟩
  · have HP := Lib.hid h2
    rw [h1] at HC
    clear h1 h2 hsl
    go_enter Tryz.func79, Tryz.ntmps79
    go_wp2_with fail
    refine (HC _).mono ?_
    rintro e w1 ⟨rfl, rfl⟩
    clear HC
    go_wp2_with fail
    go_ret2
    exact ⟨none, 0, 0, [], by rw [HP.out]; rfl, by simp, by rw [HP.out]; rfl, ⟨RowAt.nil _ _ _, by simp⟩, Below.refl _ _⟩
  · have HP := Lib.hid h2
    subst h1
    clear h2 hsl
    rw [show Lib.trimPrefix [47] [47] = [] from rfl, show Lib.hasPrefix [47] [47] = true from rfl] at HC
    go_enter Tryz.func79, Tryz.ntmps79
    go_wp2_with fail
    refine (HC _).mono ?_
    rintro e w1 ⟨rfl, rfl⟩
    clear HC
    go_wp2_with fail
    go_ret2
    exact ⟨none, 0, 0, [], by rw [HP.out]; rfl, by simp, by rw [HP.out]; rfl, ⟨RowAt.nil _ _ _, by simp⟩, Below.refl _ _⟩
  · subst h2
    have HP := Lib.hid h3
    clear h3
    have e1 : Lib.trimPrefix (47 :: r) [47] = r := by simp [Lib.trimPrefix, Lib.hasPrefix, List.isPrefixOf]
    have e2 : Lib.hasPrefix (47 :: r) [47] = true := by simp [Lib.hasPrefix, List.isPrefixOf]
    rw [show (⟨#[47]⟩ : ByteArray).data.toList = [47] from rfl, e1, e2] at HC
    clear e1 e2
    obtain ⟨t, ht⟩ : ∃ t, t = bmk r := ⟨_, rfl⟩
    have ht' : (⟨r.toArray⟩ : ByteArray) = t := ht.symm
    rw [ht'] at HC
    have htl : t.data.toList = r := by rw [ht]; rfl
    have hts : t.size = r.length := by rw [ht, bmk_size]
    have hte := ByteArray.toList_eq t
    rw [htl] at hte
    have ht1 : ¬ t.toList = [] := by rw [hte]; exact h1
    have ht2 : t.toList.isEmpty = false := by rw [hte]; simpa using h1
    have hsz : t.size < 4294967281 := by rw [hts]; simp at hsl; omega
    clear ht ht' hte
    obtain ⟨hB, hcn⟩ := splitB_ours t
    rw [htl] at hB hcn
    have hlen : (Lib.splitB ⟨#[47]⟩ 0 (Lib.countB t ⟨#[47]⟩) t).length = Lib.countB t ⟨#[47]⟩ + 1 := by
      have := congrArg List.length hB
      rw [List.length_map, splitL_length] at this
      omega
    have hcl : Lib.countB t ⟨#[47]⟩ + 1 ≤ r.length + 1 := by rw [hcn]; have := List.count_le_length (a := (47 : UInt8)) (l := r); omega
    have hshort : ∀ x ∈ Lib.splitB ⟨#[47]⟩ 0 (Lib.countB t ⟨#[47]⟩) t, x.size ≤ maxLen := by
      intro x hx
      have h5 : x.data.toList ∈ splitL r := by rw [← hB]; exact List.mem_map.2 ⟨x, hx, rfl⟩
      have := splitL_le r _ h5
      have h6 : x.data.toList.length = x.size := by simp
      unfold maxLen
      omega
    obtain ⟨ss, hss⟩ : ∃ ss, ss = Lib.splitB ⟨#[47]⟩ 0 (Lib.countB t ⟨#[47]⟩) t := ⟨_, rfl⟩
    have HS := Tryz.strings_Split t ⟨#[47]⟩ m w hsz hm (by decide)
    obtain ⟨n, hn⟩ : ∃ n, n = Lib.countB t ⟨#[47]⟩ + 1 := ⟨_, rfl⟩
    rw [← hss, ← hn] at HS
    rw [← hss] at hB hlen hshort
    rw [← hn] at hlen hcl
    have hnm : n ≤ maxLen := by unfold maxLen; omega
    have HSt := strs_new (w := w) (e := 9) hlen hnm hshort
    have HF := fine_any (S := Fresh w.heap.size) (some ⟨w.heap.size, 0, none⟩) n n ss _ HSt
    rw [fine_bls, show bls ss = splitL r from hB] at HF
    have HB := Lib.hid hB
    clear hB hlen hshort hss hn hcn hcl hnm htl hts hsl
    cases hf : (fineL (splitL r) != 0)
    · have hf0 : fineL (splitL r) = 0 := by simpa using hf
      have HF0 := Lib.hid hf0
      clear hf0
      go_enter Tryz.func79, Tryz.ntmps79
      go_wp2_with fail
      refine (HC _).mono ?_
      rintro e w1 ⟨rfl, rfl⟩
      clear HC
      go_wp2_with fail
      refine HS.mono ?_
      rintro e w1 ⟨rfl, rfl⟩
      go_wp2_with fail
      refine HF.mono ?_
      rintro e w1 ⟨rfl, hb⟩
      go_wp2_with fail
      go_ret2
      refine ⟨_, n, n, ss, by rw [HP.out, if_pos HF0.out]; rfl, Nat.le_refl _, by rw [HP.out, if_pos HF0.out]; exact HB.out, HSt.below hb (by simp), ((Below.refl _ _).alloc (Nat.le_refl _) _).trans (hb.mono (by simp))⟩
    · have hf0 : fineL (splitL r) ≠ 0 := by simpa using hf
      have HF0 := Lib.hid hf0
      clear hf0
      go_enter Tryz.func79, Tryz.ntmps79
      go_wp2_with fail
      refine (HC _).mono ?_
      rintro e w1 ⟨rfl, rfl⟩
      clear HC
      go_wp2_with fail
      refine HS.mono ?_
      rintro e w1 ⟨rfl, rfl⟩
      go_wp2_with fail
      refine HF.mono ?_
      rintro e w1 ⟨rfl, hb⟩
      go_wp2_with fail
      go_ret2
      refine ⟨none, 0, 0, [], by rw [HP.out, if_neg HF0.out]; rfl, by simp, by rw [HP.out, if_neg HF0.out]; rfl, ⟨RowAt.nil _ _ _, by simp⟩, ((Below.refl _ _).alloc (Nat.le_refl _) _).trans (hb.mono (by simp))⟩
end Go.Proofs.YtpgklnhkfgbpgaaGreatDoor
namespace Go.Proofs.YtpgklnhkfgbpgaaGreatDoor
open Go.ChangeShapes Go.WideShapes Go.ChangeAt Go.RowKit
set_option linter.unusedVariables false
set_option linter.unusedSimpArgs false

theorem splitsM_ok : ∀ (ts : List (List UInt8)), (∀ t ∈ ts, (pathSplit t).2 = 0) → splitsM ts = (ts.map fun t => (pathSplit t).1, 0)
  | [], _ => rfl
  | t :: r, h => by
    have h1 := h t (by simp)
    have h2 := splitsM_ok r fun x hx => h x (by simp [hx])
    unfold splitsM
    rw [if_neg (by rw [h1]; simp), h2, if_neg (by simp)]
    rfl
theorem splitsM_bad : ∀ (ts : List (List UInt8)) (k : Nat) (t : List UInt8), ts[k]? = some t → (∀ x ∈ ts.take k, (pathSplit x).2 = 0) → (pathSplit t).2 ≠ 0 → splitsM ts = ([], (pathSplit t).2)
  | [], k, t, h, _, _ => by simp at h
  | a :: r, 0, t, h, _, h2 => by
    have h : a = t := by simpa using h
    subst h
    unfold splitsM
    rw [if_pos h2]
  | a :: r, k + 1, t, h, h1, h2 => by
    have h3 := splitsM_bad r k t (by simpa using h) (fun x hx => h1 x (by rw [List.take_succ_cons]; simp [hx])) h2
    unfold splitsM
    rw [if_neg (by rw [h1 a (by rw [List.take_succ_cons]; simp)]; simp), h3, if_pos h2]
theorem bls_eta (ss : List ByteArray) : (bls ss).map strOf = ss := by
  unfold bls
  rw [List.map_map]
  have : (strOf ∘ fun s : ByteArray => s.data.toList) = id := by
    funext s
    show strOf s.data.toList = s
    cases s; rfl
  rw [this, List.map_id]
def PathsRet (w : World) (ps : List (List Nm) × Int) (e : Ending) (w' : World) : Prop :=
  ∃ a n c vs, e = .returned (.tuple #[.slice a n c, .int .i64 ps.2]) ∧ n = ps.1.length ∧ n ≤ c ∧ RowAt (fun b => w.heap.size ≤ b ∧ b < w'.heap.size) w' a n vs ∧ PathVs (fun b => w.heap.size ≤ b ∧ b < w'.heap.size) w' vs ps.1 ∧ Below w.heap.size w w'
/-- What stands behind so many rounds. -/
def PathsLoop (w : World) (ts : List (List UInt8)) (k : Nat) (v : Value) (wr : World) : Prop :=
  ∃ vals, wr.ownsRow w.heap.size 28 1 v k vals ∧ PathVs (fun b => w.heap.size ≤ b ∧ b < wr.heap.size ∧ v.ownBlock ≠ some b) wr vals ((ts.take k).map fun t => (pathSplit t).1) ∧ Below w.heap.size w wr ∧ ∀ t ∈ ts.take k, (pathSplit t).2 = 0
theorem PathsLoop.start {w wr : World} (ts : List (List UInt8)) (hb : Below w.heap.size w wr) : PathsLoop w ts 0 (.slice none 0 0) wr :=
  ⟨[], ⟨rfl, .inl ⟨rfl, rfl⟩⟩, ⟨rfl, fun i q hq => by simp at hq⟩, hb, fun t ht => by simp at ht⟩
theorem PathsLoop.one {w : World} {ts : List (List UInt8)} {k : Nat} {v : Value} {wr : World} (h : PathsLoop w ts k v wr) : ∃ a c vals, v = .slice a k c ∧ k ≤ c ∧ wr.ownsRow w.heap.size 28 1 v k vals := by
  obtain ⟨vals, h1, h2⟩ := h
  obtain ⟨a, c, h3, h4⟩ := own_form h1
  exact ⟨a, c, vals, h3, h4, h1⟩
theorem PathsLoop.next {w w2 w3 w4 : World} {ts : List (List UInt8)} {k : Nat} {v v' : Value} {wr : World} {t : List UInt8} {a : Option Addr} {len cap : Nat} {ss : List ByteArray} {vals : List Value}
    (h1 : wr.ownsRow w.heap.size 28 1 v k vals) (h2 : PathVs (fun b => w.heap.size ≤ b ∧ b < wr.heap.size ∧ v.ownBlock ≠ some b) wr vals ((ts.take k).map fun t => (pathSplit t).1)) (h3 : Below w.heap.size w wr) (h4 : ∀ t ∈ ts.take k, (pathSplit t).2 = 0)
    (ht : ts[k]? = some t) (h0 : (pathSplit t).2 = 0) (hlc : len ≤ cap) (hbs : bls ss = (pathSplit t).1) (hS : StrsAt (Fresh wr.heap.size) w2 a len ss) (hb2 : Below wr.heap.size wr w2) (hb3 : Below w2.heap.size w2 w3)
    (hown : w4.ownsRow w.heap.size 28 1 v' (k + 1) (vals ++ [.slice a len cap])) (hg : w3.grownBy w4 v.ownBlock) (hob : v'.ownBlock = v.ownBlock ∨ v'.ownBlock = some w3.heap.size) : PathsLoop w ts (k + 1) v' w4 := by
  have hs2 := hb2.size
  have hs3 := hb3.size
  have hs1 := h3.size
  have hs4 := hg.size
  have hvo : ∀ b, v.ownBlock = some b → b < wr.heap.size := own_lt h1
  have hne : ∀ b, b < w3.heap.size → v.ownBlock ≠ some b → v'.ownBlock ≠ some b := fun b hb hn => by
    rcases hob with e | e
    · rw [e]; exact hn
    · rw [e]; simp; omega
  refine ⟨_, hown, ?_, (h3.trans ((hb2.trans (hb3.mono hs2)).mono hs1)).grown hg (by omega) (own_block_ge h1), fun x hx => ?_⟩
  · have e : (ts.take (k + 1)).map (fun t => (pathSplit t).1) = (ts.take k).map (fun t => (pathSplit t).1) ++ [(pathSplit t).1] := by
      obtain ⟨hk, e⟩ := List.getElem?_eq_some_iff.1 ht
      rw [List.take_succ_eq_append_getElem hk, List.map_append, e]; rfl
    rw [e]
    refine PathVs.append (h2.move (by omega) fun b hb hbw => ⟨⟨hb.1, by omega, hne b (by omega) hb.2.2⟩, ?_⟩) ⟨rfl, fun i q hq => ?_⟩
    · exact ((hg.block b (by omega) (fun e => hb.2.2 e.symm)).trans (hb3.block b (by omega))).trans (hb2.block b hbw)
    · rcases i with _ | i
      · have hq : (pathSplit t).1 = q := by simpa using hq
        subst hq
        refine ⟨_, rfl, ?_⟩
        have hl := hS.length
        have hss : ss = ((pathSplit t).1).map strOf := by rw [← hbs, bls_eta]
        have hll : len = (pathSplit t).1.length := by rw [← hl, hss, List.length_map]
        subst hll
        rw [hss] at hS
        refine ⟨a, cap, rfl, hlc, hS.row.move (by omega) fun b hb hbw => ?_, hS.short⟩
        have hb : wr.heap.size ≤ b := hb
        have hvn : v.ownBlock ≠ some b := fun e => by have := hvo b e; omega
        exact ⟨⟨by omega, by omega, hne b (by omega) hvn⟩, (hg.block b (by omega) (fun e => hvn e.symm)).trans (hb3.block b hbw)⟩
      · simp at hq
  · obtain ⟨hk, e⟩ := List.getElem?_eq_some_iff.1 ht
    rw [List.take_succ_eq_append_getElem hk, e] at hx
    rcases List.mem_append.1 hx with hx | hx
    · exact h4 x hx
    · rw [List.mem_singleton.1 hx]; exact h0
theorem PathsLoop.done {w : World} {ts : List (List UInt8)} {v : Value} {wr : World} (h : PathsLoop w ts ts.length v wr) : PathsRet w (splitsM ts) (.returned (.tuple #[v, .int .i64 0])) wr := by
  obtain ⟨vals, h1, h2, h3, h4⟩ := h
  rw [List.take_of_length_le (Nat.le_refl _)] at h2 h4
  rw [splitsM_ok ts h4]
  obtain ⟨a, c, rfl, hc⟩ := own_form h1
  exact ⟨a, ts.length, c, vals, rfl, by simp, hc, (RowAt.of_own h1).2, h2.move (Nat.le_refl _) fun b hb _ => ⟨⟨hb.1, hb.2.1⟩, rfl⟩, h3⟩
theorem PathsRet.up {w w1 wr : World} {ps : List (List Nm) × Int} {e : Ending} (h : PathsRet w1 ps e wr) (hb : Below w.heap.size w w1) : PathsRet w ps e wr := by
  obtain ⟨a, n, c, vs, h1, h2, h3, h4, h5, h6⟩ := h
  have := hb.size
  exact ⟨a, n, c, vs, h1, h2, h3, h4.mono fun b hb' => ⟨by omega, hb'.2⟩, h5.move (Nat.le_refl _) fun b hb' _ => ⟨⟨by omega, hb'.2⟩, rfl⟩, hb.trans (h6.mono hb.size)⟩
theorem info_strs : (Tryz.prog.info? 28).map (fun i => (i.zero, i.size, i.bytes)) = some (some (.slice none 0 0), 1, 24) := by kernel_rfl
end Go.Proofs.YtpgklnhkfgbpgaaGreatDoor
namespace Go.Proofs.YtpgklnhkfgbpgaaGreatDoor
open Go.ChangeShapes Go.WideShapes Go.ChangeAt Go.RowKit
set_option linter.unusedVariables false
set_option linter.unusedSimpArgs false

set_option maxRecDepth 100000 in
set_option maxHeartbeats 8000000 in
theorem paths_k1 (p : Nat) (w : World) (pa to_ : List UInt8) (fd at_ n til sn : Int) (dt : List UInt8) (da : Option Addr) (dc : Nat) (hpa : pa.length < 4294967281) (hto : to_.length < 4294967281) (m : Int) (hm : w.cell? ⟨0, 0, none⟩ = some (.int .i64 m)) :
    Calls Tryz.prog 36 #[ptr p, .agg (opC ⟨1, pa, to_, fd, at_, n, til, sn, dt⟩ da dc)] w (PathsRet w (splitsM [pa])) := by
  obtain ⟨ie, he, hz0, hz1, hz2⟩ := info_parts info_strs
  have h0lt : 0 < w.heap.size := World.block_lt_of_cell? w _ hm
  obtain ⟨w1, hw1⟩ : ∃ w1, w1 = (w.alloc (.cells (opC ⟨1, pa, to_, fd, at_, n, til, sn, dt⟩ da dc) 36)).alloc (.cells #[.string (strOf pa)] 9) := ⟨_, rfl⟩
  have hb1 : Below w.heap.size w w1 := by rw [hw1]; exact (wall w _).trans ((wall _ _).mono (by simp))
  have hbl : w1.heap[w.heap.size + 1]? = some (.cells #[.string (strOf pa)] 9 (0, 0)) := by
    rw [hw1]
    have := (MapKept.heap_alloc (w.alloc (.cells (opC ⟨1, pa, to_, fd, at_, n, til, sn, dt⟩ da dc) 36)) (.cells #[.string (strOf pa)] 9)).1
    rw [World.size_alloc] at this
    exact this
  have hrow : ∀ k t, ([pa] : List (List UInt8))[k]? = some t → w1.cell? ⟨w.heap.size + 1, k, none⟩ = some (.string (strOf t)) ∧ t.length < 4294967281 := fun k t h => by
    rcases k with _ | k
    · obtain rfl : pa = t := by simpa using h
      exact ⟨by simp [World.cell?, hbl], hpa⟩
    · simp at h
  have hbz : w.heap.size + 1 < w1.heap.size := (Array.getElem?_eq_some_iff.1 hbl).1
  clear hbl
  have HROW := Lib.hid hrow
  have HB1 := Lib.hid hb1
  have HW := Lib.hid hw1
  have HM := Lib.hid hm
  have HLT := Lib.hid h0lt
  clear hrow hb1 hw1 hm hpa hto h0lt
  unfold opC at HW
  unfold opC
  go_enter Tryz.func36, Tryz.ntmps36
  go_wp2_with fail
  rw [← HW.out]
  clear HW
  obtain ⟨ts, hts⟩ : ∃ ts : List (List UInt8), ts = [pa] := ⟨_, rfl⟩
  have hnn : ts.length = 1 := by rw [hts]; rfl
  rw [← hts] at HROW
  have HTS := Lib.hid hts
  clear hts
  have HNN := Lib.hid hnn
  clear hnn
  go_loopw [7, 44] (fun v iv wr => ∃ k : Nat, k ≤ 1 ∧ iv = .int .i64 k ∧ PathsLoop w1 ts k v wr) (fun _ iv _ => 1 - (intOf iv).toNat)
  case atStart => exact ⟨0, by omega, rfl, PathsLoop.start ts (Below.refl _ _)⟩
  case round =>
    obtain ⟨k, hk, rfl, hrel⟩ := hrel
    have HR := Lib.hid hrel
    clear hrel
    by_cases hlt : k < 1
    · obtain ⟨t, ht⟩ : ∃ t, ts[k]? = some t := ⟨ts[k]'(by rw [HNN.out]; exact hlt), List.getElem?_eq_getElem _⟩
      obtain ⟨hc1, hts⟩ := HROW.out k t ht
      obtain ⟨vals, hown, hpv, hbw, hok⟩ := HR.out
      have hcell := (hbw.cell (p := ⟨w.heap.size + 1, k, none⟩) hbz).trans hc1
      have hmr : wr.cell? ⟨0, 0, none⟩ = some (.int .i64 m) := ((HB1.out.trans (hbw.mono HB1.out.size)).cell (p := ⟨0, 0, none⟩) HLT.out).trans HM.out
      have HSP := Lib.hid (split_any (strOf t) wr (by rw [strOf_size]; exact hts) m hmr)
      have HT := Lib.hid ht
      have HOWN := Lib.hid hown
      have HPV := Lib.hid hpv
      have HBW := Lib.hid hbw
      have HOK := Lib.hid hok
      have i0 : (0 : Int) ≤ (k : Int) := by omega
      have i1 : (k : Int) < 1 := by omega
      have hsz := hbw.size
      have hd : decide ((k : Int) < 1) = true := by simpa using i1
      obtain ⟨ao, co, rfl, hac⟩ := own_form hown
      clear hown hpv hbw hok ht hc1 hts hmr
      go_wp2_with fail
      (with_reducible refine HSP.out.mono ?_)
      rintro e w2 ⟨a, len, cap, ss, rfl, hlc, hbs, hS, hb2⟩
      rw [show (strOf t).data.toList = t from rfl] at hbs ⊢
      have HBS := Lib.hid hbs
      have HS := Lib.hid hS
      have HB2 := Lib.hid hb2
      have HLC := Lib.hid hlc
      have hs2 := hb2.size
      clear HSP hbs hS hb2 hlc
      obtain ⟨z, hz⟩ : ∃ z, z = (pathSplit t).2 := ⟨_, rfl⟩
      rw [← hz]
      by_cases hzz : z = 0
      · have HZ := Lib.hid (hz.symm.trans hzz)
        subst hzz
        clear hz
        go_wp2_with (at_builtin; refine wpList_append_row (by rfl) _ _ 62 (by rfl) w1.heap.size 28 ie (.slice none 0 0) 24 Tryz.underlying62 he hz0 hz1 hz2 rfl _ _ _ (by rfl) (own_keep HOWN.out fun b hb _ => ((wall w2 (.cells #[.slice a len cap] 28)).block b (by have := own_lt HOWN.out b hb; omega)).trans (HB2.out.block b (own_lt HOWN.out b hb))) (some ⟨w2.heap.size, 0, none⟩) 1 1 [.slice a len cap] (by rfl) (one_row _ _) (by intro u hu; rw [List.mem_singleton.1 hu]; rfl) (by unfold maxLen; omega) (by omega) (by simp; omega) ?_; intro A' c' w4 hown4 hgrow4 _ hob4)
        have HN := Lib.hid (PathsLoop.next HOWN.out HPV.out HBW.out HOK.out HT.out HZ.out HLC.out HBS.out HS.out HB2.out (wall w2 _) hown4 hgrow4 hob4)
        have HG4 := Lib.hid hgrow4
        clear hown4 hgrow4 hob4
        go_roundw
        case rel =>
          exact ⟨k + 1, by omega, by go_num, HN.out⟩
        case measure => simp [intOf]; omega
      · have HZ := Lib.hid hzz
        have hz2 : (z != 0) = true := by simpa using hzz
        have HZE := Lib.hid hz
        clear hzz hz
        go_wp2_with fail
        go_ret2
        rw [← HTS.out, splitsM_bad ts k t HT.out HOK.out (by rw [← HZE.out]; exact HZ.out)]
        exact ⟨none, 0, 0, [], by rw [HZE.out]; rfl, rfl, Nat.le_refl _, RowAt.nil _ _ _, ⟨rfl, fun i q hq => by simp at hq⟩, HB1.out.trans ((HBW.out.trans (HB2.out.mono HBW.out.size)).mono HB1.out.size)⟩
    · have hd : decide ((k : Int) < 1) = false := by simp; omega
      obtain rfl : k = 1 := by omega
      obtain ⟨a, c, vals, rfl, hac, hown⟩ := HR.out.one
      clear hown
      go_wp2_with fail
      go_ret2
      have hd := HR.out
      rw [← HNN.out] at hd
      have := hd.done
      rw [HNN.out, HTS.out] at this
      exact this.up HB1.out
set_option maxRecDepth 100000 in
set_option maxHeartbeats 8000000 in
theorem paths_k2 (p : Nat) (w : World) (pa to_ : List UInt8) (fd at_ n til sn : Int) (dt : List UInt8) (da : Option Addr) (dc : Nat) (hpa : pa.length < 4294967281) (hto : to_.length < 4294967281) (m : Int) (hm : w.cell? ⟨0, 0, none⟩ = some (.int .i64 m)) :
    Calls Tryz.prog 36 #[ptr p, .agg (opC ⟨2, pa, to_, fd, at_, n, til, sn, dt⟩ da dc)] w (PathsRet w (splitsM [pa])) := by
  obtain ⟨ie, he, hz0, hz1, hz2⟩ := info_parts info_strs
  have h0lt : 0 < w.heap.size := World.block_lt_of_cell? w _ hm
  obtain ⟨w1, hw1⟩ : ∃ w1, w1 = (w.alloc (.cells (opC ⟨2, pa, to_, fd, at_, n, til, sn, dt⟩ da dc) 36)).alloc (.cells #[.string (strOf pa)] 9) := ⟨_, rfl⟩
  have hb1 : Below w.heap.size w w1 := by rw [hw1]; exact (wall w _).trans ((wall _ _).mono (by simp))
  have hbl : w1.heap[w.heap.size + 1]? = some (.cells #[.string (strOf pa)] 9 (0, 0)) := by
    rw [hw1]
    have := (MapKept.heap_alloc (w.alloc (.cells (opC ⟨2, pa, to_, fd, at_, n, til, sn, dt⟩ da dc) 36)) (.cells #[.string (strOf pa)] 9)).1
    rw [World.size_alloc] at this
    exact this
  have hrow : ∀ k t, ([pa] : List (List UInt8))[k]? = some t → w1.cell? ⟨w.heap.size + 1, k, none⟩ = some (.string (strOf t)) ∧ t.length < 4294967281 := fun k t h => by
    rcases k with _ | k
    · obtain rfl : pa = t := by simpa using h
      exact ⟨by simp [World.cell?, hbl], hpa⟩
    · simp at h
  have hbz : w.heap.size + 1 < w1.heap.size := (Array.getElem?_eq_some_iff.1 hbl).1
  clear hbl
  have HROW := Lib.hid hrow
  have HB1 := Lib.hid hb1
  have HW := Lib.hid hw1
  have HM := Lib.hid hm
  have HLT := Lib.hid h0lt
  clear hrow hb1 hw1 hm hpa hto h0lt
  unfold opC at HW
  unfold opC
  go_enter Tryz.func36, Tryz.ntmps36
  go_wp2_with fail
  rw [← HW.out]
  clear HW
  obtain ⟨ts, hts⟩ : ∃ ts : List (List UInt8), ts = [pa] := ⟨_, rfl⟩
  have hnn : ts.length = 1 := by rw [hts]; rfl
  rw [← hts] at HROW
  have HTS := Lib.hid hts
  clear hts
  have HNN := Lib.hid hnn
  clear hnn
  go_loopw [7, 44] (fun v iv wr => ∃ k : Nat, k ≤ 1 ∧ iv = .int .i64 k ∧ PathsLoop w1 ts k v wr) (fun _ iv _ => 1 - (intOf iv).toNat)
  case atStart => exact ⟨0, by omega, rfl, PathsLoop.start ts (Below.refl _ _)⟩
  case round =>
    obtain ⟨k, hk, rfl, hrel⟩ := hrel
    have HR := Lib.hid hrel
    clear hrel
    by_cases hlt : k < 1
    · obtain ⟨t, ht⟩ : ∃ t, ts[k]? = some t := ⟨ts[k]'(by rw [HNN.out]; exact hlt), List.getElem?_eq_getElem _⟩
      obtain ⟨hc1, hts⟩ := HROW.out k t ht
      obtain ⟨vals, hown, hpv, hbw, hok⟩ := HR.out
      have hcell := (hbw.cell (p := ⟨w.heap.size + 1, k, none⟩) hbz).trans hc1
      have hmr : wr.cell? ⟨0, 0, none⟩ = some (.int .i64 m) := ((HB1.out.trans (hbw.mono HB1.out.size)).cell (p := ⟨0, 0, none⟩) HLT.out).trans HM.out
      have HSP := Lib.hid (split_any (strOf t) wr (by rw [strOf_size]; exact hts) m hmr)
      have HT := Lib.hid ht
      have HOWN := Lib.hid hown
      have HPV := Lib.hid hpv
      have HBW := Lib.hid hbw
      have HOK := Lib.hid hok
      have i0 : (0 : Int) ≤ (k : Int) := by omega
      have i1 : (k : Int) < 1 := by omega
      have hsz := hbw.size
      have hd : decide ((k : Int) < 1) = true := by simpa using i1
      obtain ⟨ao, co, rfl, hac⟩ := own_form hown
      clear hown hpv hbw hok ht hc1 hts hmr
      go_wp2_with fail
      (with_reducible refine HSP.out.mono ?_)
      rintro e w2 ⟨a, len, cap, ss, rfl, hlc, hbs, hS, hb2⟩
      rw [show (strOf t).data.toList = t from rfl] at hbs ⊢
      have HBS := Lib.hid hbs
      have HS := Lib.hid hS
      have HB2 := Lib.hid hb2
      have HLC := Lib.hid hlc
      have hs2 := hb2.size
      clear HSP hbs hS hb2 hlc
      obtain ⟨z, hz⟩ : ∃ z, z = (pathSplit t).2 := ⟨_, rfl⟩
      rw [← hz]
      by_cases hzz : z = 0
      · have HZ := Lib.hid (hz.symm.trans hzz)
        subst hzz
        clear hz
        go_wp2_with (at_builtin; refine wpList_append_row (by rfl) _ _ 62 (by rfl) w1.heap.size 28 ie (.slice none 0 0) 24 Tryz.underlying62 he hz0 hz1 hz2 rfl _ _ _ (by rfl) (own_keep HOWN.out fun b hb _ => ((wall w2 (.cells #[.slice a len cap] 28)).block b (by have := own_lt HOWN.out b hb; omega)).trans (HB2.out.block b (own_lt HOWN.out b hb))) (some ⟨w2.heap.size, 0, none⟩) 1 1 [.slice a len cap] (by rfl) (one_row _ _) (by intro u hu; rw [List.mem_singleton.1 hu]; rfl) (by unfold maxLen; omega) (by omega) (by simp; omega) ?_; intro A' c' w4 hown4 hgrow4 _ hob4)
        have HN := Lib.hid (PathsLoop.next HOWN.out HPV.out HBW.out HOK.out HT.out HZ.out HLC.out HBS.out HS.out HB2.out (wall w2 _) hown4 hgrow4 hob4)
        have HG4 := Lib.hid hgrow4
        clear hown4 hgrow4 hob4
        go_roundw
        case rel =>
          exact ⟨k + 1, by omega, by go_num, HN.out⟩
        case measure => simp [intOf]; omega
      · have HZ := Lib.hid hzz
        have hz2 : (z != 0) = true := by simpa using hzz
        have HZE := Lib.hid hz
        clear hzz hz
        go_wp2_with fail
        go_ret2
        rw [← HTS.out, splitsM_bad ts k t HT.out HOK.out (by rw [← HZE.out]; exact HZ.out)]
        exact ⟨none, 0, 0, [], by rw [HZE.out]; rfl, rfl, Nat.le_refl _, RowAt.nil _ _ _, ⟨rfl, fun i q hq => by simp at hq⟩, HB1.out.trans ((HBW.out.trans (HB2.out.mono HBW.out.size)).mono HB1.out.size)⟩
    · have hd : decide ((k : Int) < 1) = false := by simp; omega
      obtain rfl : k = 1 := by omega
      obtain ⟨a, c, vals, rfl, hac, hown⟩ := HR.out.one
      clear hown
      go_wp2_with fail
      go_ret2
      have hd := HR.out
      rw [← HNN.out] at hd
      have := hd.done
      rw [HNN.out, HTS.out] at this
      exact this.up HB1.out
set_option maxRecDepth 100000 in
set_option maxHeartbeats 8000000 in
theorem paths_k3 (p : Nat) (w : World) (pa to_ : List UInt8) (fd at_ n til sn : Int) (dt : List UInt8) (da : Option Addr) (dc : Nat) (hpa : pa.length < 4294967281) (hto : to_.length < 4294967281) (m : Int) (hm : w.cell? ⟨0, 0, none⟩ = some (.int .i64 m)) :
    Calls Tryz.prog 36 #[ptr p, .agg (opC ⟨3, pa, to_, fd, at_, n, til, sn, dt⟩ da dc)] w (PathsRet w (splitsM [pa])) := by
  obtain ⟨ie, he, hz0, hz1, hz2⟩ := info_parts info_strs
  have h0lt : 0 < w.heap.size := World.block_lt_of_cell? w _ hm
  obtain ⟨w1, hw1⟩ : ∃ w1, w1 = (w.alloc (.cells (opC ⟨3, pa, to_, fd, at_, n, til, sn, dt⟩ da dc) 36)).alloc (.cells #[.string (strOf pa)] 9) := ⟨_, rfl⟩
  have hb1 : Below w.heap.size w w1 := by rw [hw1]; exact (wall w _).trans ((wall _ _).mono (by simp))
  have hbl : w1.heap[w.heap.size + 1]? = some (.cells #[.string (strOf pa)] 9 (0, 0)) := by
    rw [hw1]
    have := (MapKept.heap_alloc (w.alloc (.cells (opC ⟨3, pa, to_, fd, at_, n, til, sn, dt⟩ da dc) 36)) (.cells #[.string (strOf pa)] 9)).1
    rw [World.size_alloc] at this
    exact this
  have hrow : ∀ k t, ([pa] : List (List UInt8))[k]? = some t → w1.cell? ⟨w.heap.size + 1, k, none⟩ = some (.string (strOf t)) ∧ t.length < 4294967281 := fun k t h => by
    rcases k with _ | k
    · obtain rfl : pa = t := by simpa using h
      exact ⟨by simp [World.cell?, hbl], hpa⟩
    · simp at h
  have hbz : w.heap.size + 1 < w1.heap.size := (Array.getElem?_eq_some_iff.1 hbl).1
  clear hbl
  have HROW := Lib.hid hrow
  have HB1 := Lib.hid hb1
  have HW := Lib.hid hw1
  have HM := Lib.hid hm
  have HLT := Lib.hid h0lt
  clear hrow hb1 hw1 hm hpa hto h0lt
  unfold opC at HW
  unfold opC
  go_enter Tryz.func36, Tryz.ntmps36
  go_wp2_with fail
  rw [← HW.out]
  clear HW
  obtain ⟨ts, hts⟩ : ∃ ts : List (List UInt8), ts = [pa] := ⟨_, rfl⟩
  have hnn : ts.length = 1 := by rw [hts]; rfl
  rw [← hts] at HROW
  have HTS := Lib.hid hts
  clear hts
  have HNN := Lib.hid hnn
  clear hnn
  go_loopw [7, 44] (fun v iv wr => ∃ k : Nat, k ≤ 1 ∧ iv = .int .i64 k ∧ PathsLoop w1 ts k v wr) (fun _ iv _ => 1 - (intOf iv).toNat)
  case atStart => exact ⟨0, by omega, rfl, PathsLoop.start ts (Below.refl _ _)⟩
  case round =>
    obtain ⟨k, hk, rfl, hrel⟩ := hrel
    have HR := Lib.hid hrel
    clear hrel
    by_cases hlt : k < 1
    · obtain ⟨t, ht⟩ : ∃ t, ts[k]? = some t := ⟨ts[k]'(by rw [HNN.out]; exact hlt), List.getElem?_eq_getElem _⟩
      obtain ⟨hc1, hts⟩ := HROW.out k t ht
      obtain ⟨vals, hown, hpv, hbw, hok⟩ := HR.out
      have hcell := (hbw.cell (p := ⟨w.heap.size + 1, k, none⟩) hbz).trans hc1
      have hmr : wr.cell? ⟨0, 0, none⟩ = some (.int .i64 m) := ((HB1.out.trans (hbw.mono HB1.out.size)).cell (p := ⟨0, 0, none⟩) HLT.out).trans HM.out
      have HSP := Lib.hid (split_any (strOf t) wr (by rw [strOf_size]; exact hts) m hmr)
      have HT := Lib.hid ht
      have HOWN := Lib.hid hown
      have HPV := Lib.hid hpv
      have HBW := Lib.hid hbw
      have HOK := Lib.hid hok
      have i0 : (0 : Int) ≤ (k : Int) := by omega
      have i1 : (k : Int) < 1 := by omega
      have hsz := hbw.size
      have hd : decide ((k : Int) < 1) = true := by simpa using i1
      obtain ⟨ao, co, rfl, hac⟩ := own_form hown
      clear hown hpv hbw hok ht hc1 hts hmr
      go_wp2_with fail
      (with_reducible refine HSP.out.mono ?_)
      rintro e w2 ⟨a, len, cap, ss, rfl, hlc, hbs, hS, hb2⟩
      rw [show (strOf t).data.toList = t from rfl] at hbs ⊢
      have HBS := Lib.hid hbs
      have HS := Lib.hid hS
      have HB2 := Lib.hid hb2
      have HLC := Lib.hid hlc
      have hs2 := hb2.size
      clear HSP hbs hS hb2 hlc
      obtain ⟨z, hz⟩ : ∃ z, z = (pathSplit t).2 := ⟨_, rfl⟩
      rw [← hz]
      by_cases hzz : z = 0
      · have HZ := Lib.hid (hz.symm.trans hzz)
        subst hzz
        clear hz
        go_wp2_with (at_builtin; refine wpList_append_row (by rfl) _ _ 62 (by rfl) w1.heap.size 28 ie (.slice none 0 0) 24 Tryz.underlying62 he hz0 hz1 hz2 rfl _ _ _ (by rfl) (own_keep HOWN.out fun b hb _ => ((wall w2 (.cells #[.slice a len cap] 28)).block b (by have := own_lt HOWN.out b hb; omega)).trans (HB2.out.block b (own_lt HOWN.out b hb))) (some ⟨w2.heap.size, 0, none⟩) 1 1 [.slice a len cap] (by rfl) (one_row _ _) (by intro u hu; rw [List.mem_singleton.1 hu]; rfl) (by unfold maxLen; omega) (by omega) (by simp; omega) ?_; intro A' c' w4 hown4 hgrow4 _ hob4)
        have HN := Lib.hid (PathsLoop.next HOWN.out HPV.out HBW.out HOK.out HT.out HZ.out HLC.out HBS.out HS.out HB2.out (wall w2 _) hown4 hgrow4 hob4)
        have HG4 := Lib.hid hgrow4
        clear hown4 hgrow4 hob4
        go_roundw
        case rel =>
          exact ⟨k + 1, by omega, by go_num, HN.out⟩
        case measure => simp [intOf]; omega
      · have HZ := Lib.hid hzz
        have hz2 : (z != 0) = true := by simpa using hzz
        have HZE := Lib.hid hz
        clear hzz hz
        go_wp2_with fail
        go_ret2
        rw [← HTS.out, splitsM_bad ts k t HT.out HOK.out (by rw [← HZE.out]; exact HZ.out)]
        exact ⟨none, 0, 0, [], by rw [HZE.out]; rfl, rfl, Nat.le_refl _, RowAt.nil _ _ _, ⟨rfl, fun i q hq => by simp at hq⟩, HB1.out.trans ((HBW.out.trans (HB2.out.mono HBW.out.size)).mono HB1.out.size)⟩
    · have hd : decide ((k : Int) < 1) = false := by simp; omega
      obtain rfl : k = 1 := by omega
      obtain ⟨a, c, vals, rfl, hac, hown⟩ := HR.out.one
      clear hown
      go_wp2_with fail
      go_ret2
      have hd := HR.out
      rw [← HNN.out] at hd
      have := hd.done
      rw [HNN.out, HTS.out] at this
      exact this.up HB1.out
set_option maxRecDepth 100000 in
set_option maxHeartbeats 8000000 in
theorem paths_k8 (p : Nat) (w : World) (pa to_ : List UInt8) (fd at_ n til sn : Int) (dt : List UInt8) (da : Option Addr) (dc : Nat) (hpa : pa.length < 4294967281) (hto : to_.length < 4294967281) (m : Int) (hm : w.cell? ⟨0, 0, none⟩ = some (.int .i64 m)) :
    Calls Tryz.prog 36 #[ptr p, .agg (opC ⟨8, pa, to_, fd, at_, n, til, sn, dt⟩ da dc)] w (PathsRet w (splitsM [pa])) := by
  obtain ⟨ie, he, hz0, hz1, hz2⟩ := info_parts info_strs
  have h0lt : 0 < w.heap.size := World.block_lt_of_cell? w _ hm
  obtain ⟨w1, hw1⟩ : ∃ w1, w1 = (w.alloc (.cells (opC ⟨8, pa, to_, fd, at_, n, til, sn, dt⟩ da dc) 36)).alloc (.cells #[.string (strOf pa)] 9) := ⟨_, rfl⟩
  have hb1 : Below w.heap.size w w1 := by rw [hw1]; exact (wall w _).trans ((wall _ _).mono (by simp))
  have hbl : w1.heap[w.heap.size + 1]? = some (.cells #[.string (strOf pa)] 9 (0, 0)) := by
    rw [hw1]
    have := (MapKept.heap_alloc (w.alloc (.cells (opC ⟨8, pa, to_, fd, at_, n, til, sn, dt⟩ da dc) 36)) (.cells #[.string (strOf pa)] 9)).1
    rw [World.size_alloc] at this
    exact this
  have hrow : ∀ k t, ([pa] : List (List UInt8))[k]? = some t → w1.cell? ⟨w.heap.size + 1, k, none⟩ = some (.string (strOf t)) ∧ t.length < 4294967281 := fun k t h => by
    rcases k with _ | k
    · obtain rfl : pa = t := by simpa using h
      exact ⟨by simp [World.cell?, hbl], hpa⟩
    · simp at h
  have hbz : w.heap.size + 1 < w1.heap.size := (Array.getElem?_eq_some_iff.1 hbl).1
  clear hbl
  have HROW := Lib.hid hrow
  have HB1 := Lib.hid hb1
  have HW := Lib.hid hw1
  have HM := Lib.hid hm
  have HLT := Lib.hid h0lt
  clear hrow hb1 hw1 hm hpa hto h0lt
  unfold opC at HW
  unfold opC
  go_enter Tryz.func36, Tryz.ntmps36
  go_wp2_with fail
  rw [← HW.out]
  clear HW
  obtain ⟨ts, hts⟩ : ∃ ts : List (List UInt8), ts = [pa] := ⟨_, rfl⟩
  have hnn : ts.length = 1 := by rw [hts]; rfl
  rw [← hts] at HROW
  have HTS := Lib.hid hts
  clear hts
  have HNN := Lib.hid hnn
  clear hnn
  go_loopw [7, 44] (fun v iv wr => ∃ k : Nat, k ≤ 1 ∧ iv = .int .i64 k ∧ PathsLoop w1 ts k v wr) (fun _ iv _ => 1 - (intOf iv).toNat)
  case atStart => exact ⟨0, by omega, rfl, PathsLoop.start ts (Below.refl _ _)⟩
  case round =>
    obtain ⟨k, hk, rfl, hrel⟩ := hrel
    have HR := Lib.hid hrel
    clear hrel
    by_cases hlt : k < 1
    · obtain ⟨t, ht⟩ : ∃ t, ts[k]? = some t := ⟨ts[k]'(by rw [HNN.out]; exact hlt), List.getElem?_eq_getElem _⟩
      obtain ⟨hc1, hts⟩ := HROW.out k t ht
      obtain ⟨vals, hown, hpv, hbw, hok⟩ := HR.out
      have hcell := (hbw.cell (p := ⟨w.heap.size + 1, k, none⟩) hbz).trans hc1
      have hmr : wr.cell? ⟨0, 0, none⟩ = some (.int .i64 m) := ((HB1.out.trans (hbw.mono HB1.out.size)).cell (p := ⟨0, 0, none⟩) HLT.out).trans HM.out
      have HSP := Lib.hid (split_any (strOf t) wr (by rw [strOf_size]; exact hts) m hmr)
      have HT := Lib.hid ht
      have HOWN := Lib.hid hown
      have HPV := Lib.hid hpv
      have HBW := Lib.hid hbw
      have HOK := Lib.hid hok
      have i0 : (0 : Int) ≤ (k : Int) := by omega
      have i1 : (k : Int) < 1 := by omega
      have hsz := hbw.size
      have hd : decide ((k : Int) < 1) = true := by simpa using i1
      obtain ⟨ao, co, rfl, hac⟩ := own_form hown
      clear hown hpv hbw hok ht hc1 hts hmr
      go_wp2_with fail
      (with_reducible refine HSP.out.mono ?_)
      rintro e w2 ⟨a, len, cap, ss, rfl, hlc, hbs, hS, hb2⟩
      rw [show (strOf t).data.toList = t from rfl] at hbs ⊢
      have HBS := Lib.hid hbs
      have HS := Lib.hid hS
      have HB2 := Lib.hid hb2
      have HLC := Lib.hid hlc
      have hs2 := hb2.size
      clear HSP hbs hS hb2 hlc
      obtain ⟨z, hz⟩ : ∃ z, z = (pathSplit t).2 := ⟨_, rfl⟩
      rw [← hz]
      by_cases hzz : z = 0
      · have HZ := Lib.hid (hz.symm.trans hzz)
        subst hzz
        clear hz
        go_wp2_with (at_builtin; refine wpList_append_row (by rfl) _ _ 62 (by rfl) w1.heap.size 28 ie (.slice none 0 0) 24 Tryz.underlying62 he hz0 hz1 hz2 rfl _ _ _ (by rfl) (own_keep HOWN.out fun b hb _ => ((wall w2 (.cells #[.slice a len cap] 28)).block b (by have := own_lt HOWN.out b hb; omega)).trans (HB2.out.block b (own_lt HOWN.out b hb))) (some ⟨w2.heap.size, 0, none⟩) 1 1 [.slice a len cap] (by rfl) (one_row _ _) (by intro u hu; rw [List.mem_singleton.1 hu]; rfl) (by unfold maxLen; omega) (by omega) (by simp; omega) ?_; intro A' c' w4 hown4 hgrow4 _ hob4)
        have HN := Lib.hid (PathsLoop.next HOWN.out HPV.out HBW.out HOK.out HT.out HZ.out HLC.out HBS.out HS.out HB2.out (wall w2 _) hown4 hgrow4 hob4)
        have HG4 := Lib.hid hgrow4
        clear hown4 hgrow4 hob4
        go_roundw
        case rel =>
          exact ⟨k + 1, by omega, by go_num, HN.out⟩
        case measure => simp [intOf]; omega
      · have HZ := Lib.hid hzz
        have hz2 : (z != 0) = true := by simpa using hzz
        have HZE := Lib.hid hz
        clear hzz hz
        go_wp2_with fail
        go_ret2
        rw [← HTS.out, splitsM_bad ts k t HT.out HOK.out (by rw [← HZE.out]; exact HZ.out)]
        exact ⟨none, 0, 0, [], by rw [HZE.out]; rfl, rfl, Nat.le_refl _, RowAt.nil _ _ _, ⟨rfl, fun i q hq => by simp at hq⟩, HB1.out.trans ((HBW.out.trans (HB2.out.mono HBW.out.size)).mono HB1.out.size)⟩
    · have hd : decide ((k : Int) < 1) = false := by simp; omega
      obtain rfl : k = 1 := by omega
      obtain ⟨a, c, vals, rfl, hac, hown⟩ := HR.out.one
      clear hown
      go_wp2_with fail
      go_ret2
      have hd := HR.out
      rw [← HNN.out] at hd
      have := hd.done
      rw [HNN.out, HTS.out] at this
      exact this.up HB1.out
end Go.Proofs.YtpgklnhkfgbpgaaGreatDoor
