/- package state: paths: what it gives. package state: paths, kinds 1 2 3 8. -/
import Derived.Test.YtmabllemjkcobaaGreatDoorM34
namespace Go.Proofs.YtmabllemjkcobaaGreatDoor
open Go.ChangeShapes Go.WideShapes Go.ChangeAt Go.RowKit
set_option linter.unusedVariables false
set_option linter.unusedSimpArgs false

theorem splitsM_ok : ∀ (ts : List (List UInt8)), (∀ t ∈ ts, (pathSplit t).2 = 0) → splitsM ts = (ts.map fun t => (pathSplit t).1, 0)
  | [], _ => rfl
  | t :: r, h => by
    have h1 := h t (by simp)
    have h2 := splitsM_ok r fun x hx => h x (by simp [hx])
    unfold splitsM
    rw [if_neg (by rw [h1]; simp), h2, if_neg (by simp)]
    rfl
theorem splitsM_bad : ∀ (ts : List (List UInt8)) (k : Nat) (t : List UInt8), ts[k]? = some t → (∀ x ∈ ts.take k, (pathSplit x).2 = 0) → (pathSplit t).2 ≠ 0 → splitsM ts = ([], (pathSplit t).2)
  | [], k, t, h, _, _ => by simp at h
  | a :: r, 0, t, h, _, h2 => by
    have h : a = t := by simpa using h
    subst h
    unfold splitsM
    rw [if_pos h2]
  | a :: r, k + 1, t, h, h1, h2 => by
    have h3 := splitsM_bad r k t (by simpa using h) (fun x hx => h1 x (by rw [List.take_succ_cons]; simp [hx])) h2
    unfold splitsM
    rw [if_neg (by rw [h1 a (by rw [List.take_succ_cons]; simp)]; simp), h3, if_pos h2]
theorem bls_eta (ss : List ByteArray) : (bls ss).map strOf = ss := by
  unfold bls
  rw [List.map_map]
  have : (strOf ∘ fun s : ByteArray => s.data.toList) = id := by
    funext s
    show strOf s.data.toList = s
    cases s; rfl
  rw [this, List.map_id]
def PathsRet (w : World) (ps : List (List Nm) × Int) (e : Ending) (w' : World) : Prop :=
  ∃ a n c vs, e = .returned (.tuple #[.slice a n c, .int .i64 ps.2]) ∧ n = ps.1.length ∧ n ≤ c ∧ RowAt (fun b => w.heap.size ≤ b ∧ b < w'.heap.size) w' a n vs ∧ PathVs (fun b => w.heap.size ≤ b ∧ b < w'.heap.size) w' vs ps.1 ∧ Below w.heap.size w w'
/-- What stands behind so many rounds. -/
def PathsLoop (w : World) (ts : List (List UInt8)) (k : Nat) (v : Value) (wr : World) : Prop :=
  ∃ vals, wr.ownsRow w.heap.size 32 1 v k vals ∧ PathVs (fun b => w.heap.size ≤ b ∧ b < wr.heap.size ∧ v.ownBlock ≠ some b) wr vals ((ts.take k).map fun t => (pathSplit t).1) ∧ Below w.heap.size w wr ∧ ∀ t ∈ ts.take k, (pathSplit t).2 = 0
theorem PathsLoop.start {w wr : World} (ts : List (List UInt8)) (hb : Below w.heap.size w wr) : PathsLoop w ts 0 (.slice none 0 0) wr :=
  ⟨[], ⟨rfl, .inl ⟨rfl, rfl⟩⟩, ⟨rfl, fun i q hq => by simp at hq⟩, hb, fun t ht => by simp at ht⟩
theorem PathsLoop.one {w : World} {ts : List (List UInt8)} {k : Nat} {v : Value} {wr : World} (h : PathsLoop w ts k v wr) : ∃ a c vals, v = .slice a k c ∧ k ≤ c ∧ wr.ownsRow w.heap.size 32 1 v k vals := by
  obtain ⟨vals, h1, h2⟩ := h
  obtain ⟨a, c, h3, h4⟩ := own_form h1
  exact ⟨a, c, vals, h3, h4, h1⟩
theorem PathsLoop.next {w w2 w3 w4 : World} {ts : List (List UInt8)} {k : Nat} {v v' : Value} {wr : World} {t : List UInt8} {a : Option Addr} {len cap : Nat} {ss : List ByteArray} {vals : List Value}
    (h1 : wr.ownsRow w.heap.size 32 1 v k vals) (h2 : PathVs (fun b => w.heap.size ≤ b ∧ b < wr.heap.size ∧ v.ownBlock ≠ some b) wr vals ((ts.take k).map fun t => (pathSplit t).1)) (h3 : Below w.heap.size w wr) (h4 : ∀ t ∈ ts.take k, (pathSplit t).2 = 0)
    (ht : ts[k]? = some t) (h0 : (pathSplit t).2 = 0) (hlc : len ≤ cap) (hbs : bls ss = (pathSplit t).1) (hS : StrsAt (Fresh wr.heap.size) w2 a len ss) (hb2 : Below wr.heap.size wr w2) (hb3 : Below w2.heap.size w2 w3)
    (hown : w4.ownsRow w.heap.size 32 1 v' (k + 1) (vals ++ [.slice a len cap])) (hg : w3.grownBy w4 v.ownBlock) (hob : v'.ownBlock = v.ownBlock ∨ v'.ownBlock = some w3.heap.size) : PathsLoop w ts (k + 1) v' w4 := by
  have hs2 := hb2.size
  have hs3 := hb3.size
  have hs1 := h3.size
  have hs4 := hg.size
  have hvo : ∀ b, v.ownBlock = some b → b < wr.heap.size := own_lt h1
  have hne : ∀ b, b < w3.heap.size → v.ownBlock ≠ some b → v'.ownBlock ≠ some b := fun b hb hn => by
    rcases hob with e | e
    · rw [e]; exact hn
    · rw [e]; simp; omega
  refine ⟨_, hown, ?_, (h3.trans ((hb2.trans (hb3.mono hs2)).mono hs1)).grown hg (by omega) (own_block_ge h1), fun x hx => ?_⟩
  · have e : (ts.take (k + 1)).map (fun t => (pathSplit t).1) = (ts.take k).map (fun t => (pathSplit t).1) ++ [(pathSplit t).1] := by
      obtain ⟨hk, e⟩ := List.getElem?_eq_some_iff.1 ht
      rw [List.take_succ_eq_append_getElem hk, List.map_append, e]; rfl
    rw [e]
    refine PathVs.append (h2.move (by omega) fun b hb hbw => ⟨⟨hb.1, by omega, hne b (by omega) hb.2.2⟩, ?_⟩) ⟨rfl, fun i q hq => ?_⟩
    · exact ((hg.block b (by omega) (fun e => hb.2.2 e.symm)).trans (hb3.block b (by omega))).trans (hb2.block b hbw)
    · rcases i with _ | i
      · have hq : (pathSplit t).1 = q := by simpa using hq
        subst hq
        refine ⟨_, rfl, ?_⟩
        have hl := hS.length
        have hss : ss = ((pathSplit t).1).map strOf := by rw [← hbs, bls_eta]
        have hll : len = (pathSplit t).1.length := by rw [← hl, hss, List.length_map]
        subst hll
        rw [hss] at hS
        refine ⟨a, cap, rfl, hlc, hS.row.move (by omega) fun b hb hbw => ?_, hS.short⟩
        have hb : wr.heap.size ≤ b := hb
        have hvn : v.ownBlock ≠ some b := fun e => by have := hvo b e; omega
        exact ⟨⟨by omega, by omega, hne b (by omega) hvn⟩, (hg.block b (by omega) (fun e => hvn e.symm)).trans (hb3.block b hbw)⟩
      · simp at hq
  · obtain ⟨hk, e⟩ := List.getElem?_eq_some_iff.1 ht
    rw [List.take_succ_eq_append_getElem hk, e] at hx
    rcases List.mem_append.1 hx with hx | hx
    · exact h4 x hx
    · rw [List.mem_singleton.1 hx]; exact h0
theorem PathsLoop.done {w : World} {ts : List (List UInt8)} {v : Value} {wr : World} (h : PathsLoop w ts ts.length v wr) : PathsRet w (splitsM ts) (.returned (.tuple #[v, .int .i64 0])) wr := by
  obtain ⟨vals, h1, h2, h3, h4⟩ := h
  rw [List.take_of_length_le (Nat.le_refl _)] at h2 h4
  rw [splitsM_ok ts h4]
  obtain ⟨a, c, rfl, hc⟩ := own_form h1
  exact ⟨a, ts.length, c, vals, rfl, by simp, hc, (RowAt.of_own h1).2, h2.move (Nat.le_refl _) fun b hb _ => ⟨⟨hb.1, hb.2.1⟩, rfl⟩, h3⟩
theorem PathsRet.up {w w1 wr : World} {ps : List (List Nm) × Int} {e : Ending} (h : PathsRet w1 ps e wr) (hb : Below w.heap.size w w1) : PathsRet w ps e wr := by
  obtain ⟨a, n, c, vs, h1, h2, h3, h4, h5, h6⟩ := h
  have := hb.size
  exact ⟨a, n, c, vs, h1, h2, h3, h4.mono fun b hb' => ⟨by omega, hb'.2⟩, h5.move (Nat.le_refl _) fun b hb' _ => ⟨⟨by omega, hb'.2⟩, rfl⟩, hb.trans (h6.mono hb.size)⟩
theorem info_strs : (Tryz.prog.info? 32).map (fun i => (i.zero, i.size, i.bytes)) = some (some (.slice none 0 0), 1, 24) := by kernel_rfl
end Go.Proofs.YtmabllemjkcobaaGreatDoor
namespace Go.Proofs.YtmabllemjkcobaaGreatDoor
open Go.ChangeShapes Go.WideShapes Go.ChangeAt Go.RowKit
set_option linter.unusedVariables false
set_option linter.unusedSimpArgs false

set_option maxRecDepth 100000 in
set_option maxHeartbeats 8000000 in
theorem paths_k1 (p : Nat) (w : World) (pa to_ : List UInt8) (fd at_ n til sn : Int) (dt : List UInt8) (da : Option Addr) (dc : Nat) (hpa : pa.length < 4294967281) (hto : to_.length < 4294967281) (m : Int) (hm : w.cell? ⟨0, 0, none⟩ = some (.int .i64 m)) :
    Calls Tryz.prog 36 #[ptr p, .agg (opC ⟨1, pa, to_, fd, at_, n, til, sn, dt⟩ da dc)] w (PathsRet w (splitsM [pa])) := by
  obtain ⟨ie, he, hz0, hz1, hz2⟩ := info_parts info_strs
  have h0lt : 0 < w.heap.size := World.block_lt_of_cell? w _ hm
  obtain ⟨w1, hw1⟩ : ∃ w1, w1 = (w.alloc (.cells (opC ⟨1, pa, to_, fd, at_, n, til, sn, dt⟩ da dc) 28)).alloc (.cells #[.string (strOf pa)] 9) := ⟨_, rfl⟩
  have hb1 : Below w.heap.size w w1 := by rw [hw1]; exact (wall w _).trans ((wall _ _).mono (by simp))
  have hbl : w1.heap[w.heap.size + 1]? = some (.cells #[.string (strOf pa)] 9 (0, 0)) := by
    rw [hw1]
    have := (MapKept.heap_alloc (w.alloc (.cells (opC ⟨1, pa, to_, fd, at_, n, til, sn, dt⟩ da dc) 28)) (.cells #[.string (strOf pa)] 9)).1
    rw [World.size_alloc] at this
    exact this
  have hrow : ∀ k t, ([pa] : List (List UInt8))[k]? = some t → w1.cell? ⟨w.heap.size + 1, k, none⟩ = some (.string (strOf t)) ∧ t.length < 4294967281 := fun k t h => by
    rcases k with _ | k
    · obtain rfl : pa = t := by simpa using h
      exact ⟨by simp [World.cell?, hbl], hpa⟩
    · simp at h
  have hbz : w.heap.size + 1 < w1.heap.size := (Array.getElem?_eq_some_iff.1 hbl).1
  clear hbl
  have HROW := Lib.hid hrow
  have HB1 := Lib.hid hb1
  have HW := Lib.hid hw1
  have HM := Lib.hid hm
  have HLT := Lib.hid h0lt
  clear hrow hb1 hw1 hm hpa hto h0lt
  unfold opC at HW
  unfold opC
  go_enter Tryz.func36, Tryz.ntmps36
  go_wp2_with fail
  rw [← HW.out]
  clear HW
  obtain ⟨ts, hts⟩ : ∃ ts : List (List UInt8), ts = [pa] := ⟨_, rfl⟩
  have hnn : ts.length = 1 := by rw [hts]; rfl
  rw [← hts] at HROW
  have HTS := Lib.hid hts
  clear hts
  have HNN := Lib.hid hnn
  clear hnn
  go_loopw [7, 44] (fun v iv wr => ∃ k : Nat, k ≤ 1 ∧ iv = .int .i64 k ∧ PathsLoop w1 ts k v wr) (fun _ iv _ => 1 - (intOf iv).toNat)
  case atStart => exact ⟨0, by omega, rfl, PathsLoop.start ts (Below.refl _ _)⟩
  case round =>
    obtain ⟨k, hk, rfl, hrel⟩ := hrel
    have HR := Lib.hid hrel
    clear hrel
    by_cases hlt : k < 1
    · obtain ⟨t, ht⟩ : ∃ t, ts[k]? = some t := ⟨ts[k]'(by rw [HNN.out]; exact hlt), List.getElem?_eq_getElem _⟩
      obtain ⟨hc1, hts⟩ := HROW.out k t ht
      obtain ⟨vals, hown, hpv, hbw, hok⟩ := HR.out
      have hcell := (hbw.cell (p := ⟨w.heap.size + 1, k, none⟩) hbz).trans hc1
      have hmr : wr.cell? ⟨0, 0, none⟩ = some (.int .i64 m) := ((HB1.out.trans (hbw.mono HB1.out.size)).cell (p := ⟨0, 0, none⟩) HLT.out).trans HM.out
      have HSP := Lib.hid (split_any (strOf t) wr (by rw [strOf_size]; exact hts) m hmr)
      have HT := Lib.hid ht
      have HOWN := Lib.hid hown
      have HPV := Lib.hid hpv
      have HBW := Lib.hid hbw
      have HOK := Lib.hid hok
      have i0 : (0 : Int) ≤ (k : Int) := by omega
      have i1 : (k : Int) < 1 := by omega
      have hsz := hbw.size
      have hd : decide ((k : Int) < 1) = true := by simpa using i1
      obtain ⟨ao, co, rfl, hac⟩ := own_form hown
      clear hown hpv hbw hok ht hc1 hts hmr
      go_wp2_with fail
      (with_reducible refine HSP.out.mono ?_)
      rintro e w2 ⟨a, len, cap, ss, rfl, hlc, hbs, hS, hb2⟩
      rw [show (strOf t).data.toList = t from rfl] at hbs ⊢
      have HBS := Lib.hid hbs
      have HS := Lib.hid hS
      have HB2 := Lib.hid hb2
      have HLC := Lib.hid hlc
      have hs2 := hb2.size
      clear HSP hbs hS hb2 hlc
      obtain ⟨z, hz⟩ : ∃ z, z = (pathSplit t).2 := ⟨_, rfl⟩
      rw [← hz]
      by_cases hzz : z = 0
      · have HZ := Lib.hid (hz.symm.trans hzz)
        subst hzz
        clear hz
        go_wp2_with (at_builtin; refine wpList_append_row (by rfl) _ _ 69 (by rfl) w1.heap.size 32 ie (.slice none 0 0) 24 Tryz.underlying69 he hz0 hz1 hz2 rfl _ _ _ (by rfl) (own_keep HOWN.out fun b hb _ => ((wall w2 (.cells #[.slice a len cap] 32)).block b (by have := own_lt HOWN.out b hb; omega)).trans (HB2.out.block b (own_lt HOWN.out b hb))) (some ⟨w2.heap.size, 0, none⟩) 1 1 [.slice a len cap] (by rfl) (one_row _ _) (by intro u hu; rw [List.mem_singleton.1 hu]; rfl) (by unfold maxLen; omega) (by omega) (by simp; omega) ?_; intro A' c' w4 hown4 hgrow4 _ hob4)
        have HN := Lib.hid (PathsLoop.next HOWN.out HPV.out HBW.out HOK.out HT.out HZ.out HLC.out HBS.out HS.out HB2.out (wall w2 _) hown4 hgrow4 hob4)
        have HG4 := Lib.hid hgrow4
        clear hown4 hgrow4 hob4
        go_roundw
        case rel =>
          exact ⟨k + 1, by omega, by go_num, HN.out⟩
        case measure => simp [intOf]; omega
      · have HZ := Lib.hid hzz
        have hz2 : (z != 0) = true := by simpa using hzz
        have HZE := Lib.hid hz
        clear hzz hz
        go_wp2_with fail
        go_ret2
        rw [← HTS.out, splitsM_bad ts k t HT.out HOK.out (by rw [← HZE.out]; exact HZ.out)]
        exact ⟨none, 0, 0, [], by rw [HZE.out]; rfl, rfl, Nat.le_refl _, RowAt.nil _ _ _, ⟨rfl, fun i q hq => by simp at hq⟩, HB1.out.trans ((HBW.out.trans (HB2.out.mono HBW.out.size)).mono HB1.out.size)⟩
    · have hd : decide ((k : Int) < 1) = false := by simp; omega
      obtain rfl : k = 1 := by omega
      obtain ⟨a, c, vals, rfl, hac, hown⟩ := HR.out.one
      clear hown
      go_wp2_with fail
      go_ret2
      have hd := HR.out
      rw [← HNN.out] at hd
      have := hd.done
      rw [HNN.out, HTS.out] at this
      exact this.up HB1.out
set_option maxRecDepth 100000 in
set_option maxHeartbeats 8000000 in
theorem paths_k2 (p : Nat) (w : World) (pa to_ : List UInt8) (fd at_ n til sn : Int) (dt : List UInt8) (da : Option Addr) (dc : Nat) (hpa : pa.length < 4294967281) (hto : to_.length < 4294967281) (m : Int) (hm : w.cell? ⟨0, 0, none⟩ = some (.int .i64 m)) :
    Calls Tryz.prog 36 #[ptr p, .agg (opC ⟨2, pa, to_, fd, at_, n, til, sn, dt⟩ da dc)] w (PathsRet w (splitsM [pa])) := by
  obtain ⟨ie, he, hz0, hz1, hz2⟩ := info_parts info_strs
  have h0lt : 0 < w.heap.size := World.block_lt_of_cell? w _ hm
  obtain ⟨w1, hw1⟩ : ∃ w1, w1 = (w.alloc (.cells (opC ⟨2, pa, to_, fd, at_, n, til, sn, dt⟩ da dc) 28)).alloc (.cells #[.string (strOf pa)] 9) := ⟨_, rfl⟩
  have hb1 : Below w.heap.size w w1 := by rw [hw1]; exact (wall w _).trans ((wall _ _).mono (by simp))
  have hbl : w1.heap[w.heap.size + 1]? = some (.cells #[.string (strOf pa)] 9 (0, 0)) := by
    rw [hw1]
    have := (MapKept.heap_alloc (w.alloc (.cells (opC ⟨2, pa, to_, fd, at_, n, til, sn, dt⟩ da dc) 28)) (.cells #[.string (strOf pa)] 9)).1
    rw [World.size_alloc] at this
    exact this
  have hrow : ∀ k t, ([pa] : List (List UInt8))[k]? = some t → w1.cell? ⟨w.heap.size + 1, k, none⟩ = some (.string (strOf t)) ∧ t.length < 4294967281 := fun k t h => by
    rcases k with _ | k
    · obtain rfl : pa = t := by simpa using h
      exact ⟨by simp [World.cell?, hbl], hpa⟩
    · simp at h
  have hbz : w.heap.size + 1 < w1.heap.size := (Array.getElem?_eq_some_iff.1 hbl).1
  clear hbl
  have HROW := Lib.hid hrow
  have HB1 := Lib.hid hb1
  have HW := Lib.hid hw1
  have HM := Lib.hid hm
  have HLT := Lib.hid h0lt
  clear hrow hb1 hw1 hm hpa hto h0lt
  unfold opC at HW
  unfold opC
  go_enter Tryz.func36, Tryz.ntmps36
  go_wp2_with fail
  rw [← HW.out]
  clear HW
  obtain ⟨ts, hts⟩ : ∃ ts : List (List UInt8), ts = [pa] := ⟨_, rfl⟩
  have hnn : ts.length = 1 := by rw [hts]; rfl
  rw [← hts] at HROW
  have HTS := Lib.hid hts
  clear hts
  have HNN := Lib.hid hnn
  clear hnn
  go_loopw [7, 44] (fun v iv wr => ∃ k : Nat, k ≤ 1 ∧ iv = .int .i64 k ∧ PathsLoop w1 ts k v wr) (fun _ iv _ => 1 - (intOf iv).toNat)
  case atStart => exact ⟨0, by omega, rfl, PathsLoop.start ts (Below.refl _ _)⟩
  case round =>
    obtain ⟨k, hk, rfl, hrel⟩ := hrel
    have HR := Lib.hid hrel
    clear hrel
    by_cases hlt : k < 1
    · obtain ⟨t, ht⟩ : ∃ t, ts[k]? = some t := ⟨ts[k]'(by rw [HNN.out]; exact hlt), List.getElem?_eq_getElem _⟩
      obtain ⟨hc1, hts⟩ := HROW.out k t ht
      obtain ⟨vals, hown, hpv, hbw, hok⟩ := HR.out
      have hcell := (hbw.cell (p := ⟨w.heap.size + 1, k, none⟩) hbz).trans hc1
      have hmr : wr.cell? ⟨0, 0, none⟩ = some (.int .i64 m) := ((HB1.out.trans (hbw.mono HB1.out.size)).cell (p := ⟨0, 0, none⟩) HLT.out).trans HM.out
      have HSP := Lib.hid (split_any (strOf t) wr (by rw [strOf_size]; exact hts) m hmr)
      have HT := Lib.hid ht
      have HOWN := Lib.hid hown
      have HPV := Lib.hid hpv
      have HBW := Lib.hid hbw
      have HOK := Lib.hid hok
      have i0 : (0 : Int) ≤ (k : Int) := by omega
      have i1 : (k : Int) < 1 := by omega
      have hsz := hbw.size
      have hd : decide ((k : Int) < 1) = true := by simpa using i1
      obtain ⟨ao, co, rfl, hac⟩ := own_form hown
      clear hown hpv hbw hok ht hc1 hts hmr
      go_wp2_with fail
      (with_reducible refine HSP.out.mono ?_)
      rintro e w2 ⟨a, len, cap, ss, rfl, hlc, hbs, hS, hb2⟩
      rw [show (strOf t).data.toList = t from rfl] at hbs ⊢
      have HBS := Lib.hid hbs
      have HS := Lib.hid hS
      have HB2 := Lib.hid hb2
      have HLC := Lib.hid hlc
      have hs2 := hb2.size
      clear HSP hbs hS hb2 hlc
      obtain ⟨z, hz⟩ : ∃ z, z = (pathSplit t).2 := ⟨_, rfl⟩
      rw [← hz]
      by_cases hzz : z = 0
      · have HZ := Lib.hid (hz.symm.trans hzz)
        subst hzz
        clear hz
        go_wp2_with (at_builtin; refine wpList_append_row (by rfl) _ _ 69 (by rfl) w1.heap.size 32 ie (.slice none 0 0) 24 Tryz.underlying69 he hz0 hz1 hz2 rfl _ _ _ (by rfl) (own_keep HOWN.out fun b hb _ => ((wall w2 (.cells #[.slice a len cap] 32)).block b (by have := own_lt HOWN.out b hb; omega)).trans (HB2.out.block b (own_lt HOWN.out b hb))) (some ⟨w2.heap.size, 0, none⟩) 1 1 [.slice a len cap] (by rfl) (one_row _ _) (by intro u hu; rw [List.mem_singleton.1 hu]; rfl) (by unfold maxLen; omega) (by omega) (by simp; omega) ?_; intro A' c' w4 hown4 hgrow4 _ hob4)
        have HN := Lib.hid (PathsLoop.next HOWN.out HPV.out HBW.out HOK.out HT.out HZ.out HLC.out HBS.out HS.out HB2.out (wall w2 _) hown4 hgrow4 hob4)
        have HG4 := Lib.hid hgrow4
        clear hown4 hgrow4 hob4
        go_roundw
        case rel =>
          exact ⟨k + 1, by omega, by go_num, HN.out⟩
        case measure => simp [intOf]; omega
      · have HZ := Lib.hid hzz
        have hz2 : (z != 0) = true := by simpa using hzz
        have HZE := Lib.hid hz
        clear hzz hz
        go_wp2_with fail
        go_ret2
        rw [← HTS.out, splitsM_bad ts k t HT.out HOK.out (by rw [← HZE.out]; exact HZ.out)]
        exact ⟨none, 0, 0, [], by rw [HZE.out]; rfl, rfl, Nat.le_refl _, RowAt.nil _ _ _, ⟨rfl, fun i q hq => by simp at hq⟩, HB1.out.trans ((HBW.out.trans (HB2.out.mono HBW.out.size)).mono HB1.out.size)⟩
    · have hd : decide ((k : Int) < 1) = false := by simp; omega
      obtain rfl : k = 1 := by omega
      obtain ⟨a, c, vals, rfl, hac, hown⟩ := HR.out.one
      clear hown
      go_wp2_with fail
      go_ret2
      have hd := HR.out
      rw [← HNN.out] at hd
      have := hd.done
      rw [HNN.out, HTS.out] at this
      exact this.up HB1.out
set_option maxRecDepth 100000 in
set_option maxHeartbeats 8000000 in
theorem paths_k3 (p : Nat) (w : World) (pa to_ : List UInt8) (fd at_ n til sn : Int) (dt : List UInt8) (da : Option Addr) (dc : Nat) (hpa : pa.length < 4294967281) (hto : to_.length < 4294967281) (m : Int) (hm : w.cell? ⟨0, 0, none⟩ = some (.int .i64 m)) :
    Calls Tryz.prog 36 #[ptr p, .agg (opC ⟨3, pa, to_, fd, at_, n, til, sn, dt⟩ da dc)] w (PathsRet w (splitsM [pa])) := by
  obtain ⟨ie, he, hz0, hz1, hz2⟩ := info_parts info_strs
  have h0lt : 0 < w.heap.size := World.block_lt_of_cell? w _ hm
  obtain ⟨w1, hw1⟩ : ∃ w1, w1 = (w.alloc (.cells (opC ⟨3, pa, to_, fd, at_, n, til, sn, dt⟩ da dc) 28)).alloc (.cells #[.string (strOf pa)] 9) := ⟨_, rfl⟩
  have hb1 : Below w.heap.size w w1 := by rw [hw1]; exact (wall w _).trans ((wall _ _).mono (by simp))
  have hbl : w1.heap[w.heap.size + 1]? = some (.cells #[.string (strOf pa)] 9 (0, 0)) := by
    rw [hw1]
    have := (MapKept.heap_alloc (w.alloc (.cells (opC ⟨3, pa, to_, fd, at_, n, til, sn, dt⟩ da dc) 28)) (.cells #[.string (strOf pa)] 9)).1
    rw [World.size_alloc] at this
    exact this
  have hrow : ∀ k t, ([pa] : List (List UInt8))[k]? = some t → w1.cell? ⟨w.heap.size + 1, k, none⟩ = some (.string (strOf t)) ∧ t.length < 4294967281 := fun k t h => by
    rcases k with _ | k
    · obtain rfl : pa = t := by simpa using h
      exact ⟨by simp [World.cell?, hbl], hpa⟩
    · simp at h
  have hbz : w.heap.size + 1 < w1.heap.size := (Array.getElem?_eq_some_iff.1 hbl).1
  clear hbl
  have HROW := Lib.hid hrow
  have HB1 := Lib.hid hb1
  have HW := Lib.hid hw1
  have HM := Lib.hid hm
  have HLT := Lib.hid h0lt
  clear hrow hb1 hw1 hm hpa hto h0lt
  unfold opC at HW
  unfold opC
  go_enter Tryz.func36, Tryz.ntmps36
  go_wp2_with fail
  rw [← HW.out]
  clear HW
  obtain ⟨ts, hts⟩ : ∃ ts : List (List UInt8), ts = [pa] := ⟨_, rfl⟩
  have hnn : ts.length = 1 := by rw [hts]; rfl
  rw [← hts] at HROW
  have HTS := Lib.hid hts
  clear hts
  have HNN := Lib.hid hnn
  clear hnn
  go_loopw [7, 44] (fun v iv wr => ∃ k : Nat, k ≤ 1 ∧ iv = .int .i64 k ∧ PathsLoop w1 ts k v wr) (fun _ iv _ => 1 - (intOf iv).toNat)
  case atStart => exact ⟨0, by omega, rfl, PathsLoop.start ts (Below.refl _ _)⟩
  case round =>
    obtain ⟨k, hk, rfl, hrel⟩ := hrel
    have HR := Lib.hid hrel
    clear hrel
    by_cases hlt : k < 1
    · obtain ⟨t, ht⟩ : ∃ t, ts[k]? = some t := ⟨ts[k]'(by rw [HNN.out]; exact hlt), List.getElem?_eq_getElem _⟩
      obtain ⟨hc1, hts⟩ := HROW.out k t ht
      obtain ⟨vals, hown, hpv, hbw, hok⟩ := HR.out
      have hcell := (hbw.cell (p := ⟨w.heap.size + 1, k, none⟩) hbz).trans hc1
      have hmr : wr.cell? ⟨0, 0, none⟩ = some (.int .i64 m) := ((HB1.out.trans (hbw.mono HB1.out.size)).cell (p := ⟨0, 0, none⟩) HLT.out).trans HM.out
      have HSP := Lib.hid (split_any (strOf t) wr (by rw [strOf_size]; exact hts) m hmr)
      have HT := Lib.hid ht
      have HOWN := Lib.hid hown
      have HPV := Lib.hid hpv
      have HBW := Lib.hid hbw
      have HOK := Lib.hid hok
      have i0 : (0 : Int) ≤ (k : Int) := by omega
      have i1 : (k : Int) < 1 := by omega
      have hsz := hbw.size
      have hd : decide ((k : Int) < 1) = true := by simpa using i1
      obtain ⟨ao, co, rfl, hac⟩ := own_form hown
      clear hown hpv hbw hok ht hc1 hts hmr
      go_wp2_with fail
      (with_reducible refine HSP.out.mono ?_)
      rintro e w2 ⟨a, len, cap, ss, rfl, hlc, hbs, hS, hb2⟩
      rw [show (strOf t).data.toList = t from rfl] at hbs ⊢
      have HBS := Lib.hid hbs
      have HS := Lib.hid hS
      have HB2 := Lib.hid hb2
      have HLC := Lib.hid hlc
      have hs2 := hb2.size
      clear HSP hbs hS hb2 hlc
      obtain ⟨z, hz⟩ : ∃ z, z = (pathSplit t).2 := ⟨_, rfl⟩
      rw [← hz]
      by_cases hzz : z = 0
      · have HZ := Lib.hid (hz.symm.trans hzz)
        subst hzz
        clear hz
        go_wp2_with (at_builtin; refine wpList_append_row (by rfl) _ _ 69 (by rfl) w1.heap.size 32 ie (.slice none 0 0) 24 Tryz.underlying69 he hz0 hz1 hz2 rfl _ _ _ (by rfl) (own_keep HOWN.out fun b hb _ => ((wall w2 (.cells #[.slice a len cap] 32)).block b (by have := own_lt HOWN.out b hb; omega)).trans (HB2.out.block b (own_lt HOWN.out b hb))) (some ⟨w2.heap.size, 0, none⟩) 1 1 [.slice a len cap] (by rfl) (one_row _ _) (by intro u hu; rw [List.mem_singleton.1 hu]; rfl) (by unfold maxLen; omega) (by omega) (by simp; omega) ?_; intro A' c' w4 hown4 hgrow4 _ hob4)
        have HN := Lib.hid (PathsLoop.next HOWN.out HPV.out HBW.out HOK.out HT.out HZ.out HLC.out HBS.out HS.out HB2.out (wall w2 _) hown4 hgrow4 hob4)
        have HG4 := Lib.hid hgrow4
        clear hown4 hgrow4 hob4
        go_roundw
        case rel =>
          exact ⟨k + 1, by omega, by go_num, HN.out⟩
        case measure => simp [intOf]; omega
      · have HZ := Lib.hid hzz
        have hz2 : (z != 0) = true := by simpa using hzz
        have HZE := Lib.hid hz
        clear hzz hz
        go_wp2_with fail
        go_ret2
        rw [← HTS.out, splitsM_bad ts k t HT.out HOK.out (by rw [← HZE.out]; exact HZ.out)]
        exact ⟨none, 0, 0, [], by rw [HZE.out]; rfl, rfl, Nat.le_refl _, RowAt.nil _ _ _, ⟨rfl, fun i q hq => by simp at hq⟩, HB1.out.trans ((HBW.out.trans (HB2.out.mono HBW.out.size)).mono HB1.out.size)⟩
    · have hd : decide ((k : Int) < 1) = false := by simp; omega
      obtain rfl : k = 1 := by omega
      obtain ⟨a, c, vals, rfl, hac, hown⟩ := HR.out.one
      clear hown
      go_wp2_with fail
      go_ret2
      have hd := HR.out
      rw [← HNN.out] at hd
      have := hd.done
      rw [HNN.out, HTS.out] at this
      exact this.up HB1.out
set_option maxRecDepth 100000 in
set_option maxHeartbeats 8000000 in
theorem paths_k8 (p : Nat) (w : World) (pa to_ : List UInt8) (fd at_ n til sn : Int) (dt : List UInt8) (da : Option Addr) (dc : Nat) (hpa : pa.length < 4294967281) (hto : to_.length < 4294967281) (m : Int) (hm : w.cell? ⟨0, 0, none⟩ = some (.int .i64 m)) :
    Calls Tryz.prog 36 #[ptr p, .agg (opC ⟨8, pa, to_, fd, at_, n, til, sn, dt⟩ da dc)] w (PathsRet w (splitsM [pa])) := by
  obtain ⟨ie, he, hz0, hz1, hz2⟩ := info_parts info_strs
  have h0lt : 0 < w.heap.size := World.block_lt_of_cell? w _ hm
  obtain ⟨w1, hw1⟩ : ∃ w1, w1 = (w.alloc (.cells (opC ⟨8, pa, to_, fd, at_, n, til, sn, dt⟩ da dc) 28)).alloc (.cells #[.string (strOf pa)] 9) := ⟨_, rfl⟩
  have hb1 : Below w.heap.size w w1 := by rw [hw1]; exact (wall w _).trans ((wall _ _).mono (by simp))
  have hbl : w1.heap[w.heap.size + 1]? = some (.cells #[.string (strOf pa)] 9 (0, 0)) := by
    rw [hw1]
    have := (MapKept.heap_alloc (w.alloc (.cells (opC ⟨8, pa, to_, fd, at_, n, til, sn, dt⟩ da dc) 28)) (.cells #[.string (strOf pa)] 9)).1
    rw [World.size_alloc] at this
    exact this
  have hrow : ∀ k t, ([pa] : List (List UInt8))[k]? = some t → w1.cell? ⟨w.heap.size + 1, k, none⟩ = some (.string (strOf t)) ∧ t.length < 4294967281 := fun k t h => by
    rcases k with _ | k
    · obtain rfl : pa = t := by simpa using h
      exact ⟨by simp [World.cell?, hbl], hpa⟩
    · simp at h
  have hbz : w.heap.size + 1 < w1.heap.size := (Array.getElem?_eq_some_iff.1 hbl).1
  clear hbl
  have HROW := Lib.hid hrow
  have HB1 := Lib.hid hb1
  have HW := Lib.hid hw1
  have HM := Lib.hid hm
  have HLT := Lib.hid h0lt
  clear hrow hb1 hw1 hm hpa hto h0lt
  unfold opC at HW
  unfold opC
  go_enter Tryz.func36, Tryz.ntmps36
  go_wp2_with fail
  rw [← HW.out]
  clear HW
  obtain ⟨ts, hts⟩ : ∃ ts : List (List UInt8), ts = [pa] := ⟨_, rfl⟩
  have hnn : ts.length = 1 := by rw [hts]; rfl
  rw [← hts] at HROW
  have HTS := Lib.hid hts
  clear hts
  have HNN := Lib.hid hnn
  clear hnn
  go_loopw [7, 44] (fun v iv wr => ∃ k : Nat, k ≤ 1 ∧ iv = .int .i64 k ∧ PathsLoop w1 ts k v wr) (fun _ iv _ => 1 - (intOf iv).toNat)
  case atStart => exact ⟨0, by omega, rfl, PathsLoop.start ts (Below.refl _ _)⟩
  case round =>
    obtain ⟨k, hk, rfl, hrel⟩ := hrel
    have HR := Lib.hid hrel
    clear hrel
    by_cases hlt : k < 1
    · obtain ⟨t, ht⟩ : ∃ t, ts[k]? = some t := ⟨ts[k]'(by rw [HNN.out]; exact hlt), List.getElem?_eq_getElem _⟩
      obtain ⟨hc1, hts⟩ := HROW.out k t ht
      obtain ⟨vals, hown, hpv, hbw, hok⟩ := HR.out
      have hcell := (hbw.cell (p := ⟨w.heap.size + 1, k, none⟩) hbz).trans hc1
      have hmr : wr.cell? ⟨0, 0, none⟩ = some (.int .i64 m) := ((HB1.out.trans (hbw.mono HB1.out.size)).cell (p := ⟨0, 0, none⟩) HLT.out).trans HM.out
      have HSP := Lib.hid (split_any (strOf t) wr (by rw [strOf_size]; exact hts) m hmr)
      have HT := Lib.hid ht
      have HOWN := Lib.hid hown
      have HPV := Lib.hid hpv
      have HBW := Lib.hid hbw
      have HOK := Lib.hid hok
      have i0 : (0 : Int) ≤ (k : Int) := by omega
      have i1 : (k : Int) < 1 := by omega
      have hsz := hbw.size
      have hd : decide ((k : Int) < 1) = true := by simpa using i1
      obtain ⟨ao, co, rfl, hac⟩ := own_form hown
      clear hown hpv hbw hok ht hc1 hts hmr
      go_wp2_with fail
      (with_reducible refine HSP.out.mono ?_)
      rintro e w2 ⟨a, len, cap, ss, rfl, hlc, hbs, hS, hb2⟩
      rw [show (strOf t).data.toList = t from rfl] at hbs ⊢
      have HBS := Lib.hid hbs
      have HS := Lib.hid hS
      have HB2 := Lib.hid hb2
      have HLC := Lib.hid hlc
      have hs2 := hb2.size
      clear HSP hbs hS hb2 hlc
      obtain ⟨z, hz⟩ : ∃ z, z = (pathSplit t).2 := ⟨_, rfl⟩
      rw [← hz]
      by_cases hzz : z = 0
      · have HZ := Lib.hid (hz.symm.trans hzz)
        subst hzz
        clear hz
        go_wp2_with (at_builtin; refine wpList_append_row (by rfl) _ _ 69 (by rfl) w1.heap.size 32 ie (.slice none 0 0) 24 Tryz.underlying69 he hz0 hz1 hz2 rfl _ _ _ (by rfl) (own_keep HOWN.out fun b hb _ => ((wall w2 (.cells #[.slice a len cap] 32)).block b (by have := own_lt HOWN.out b hb; omega)).trans (HB2.out.block b (own_lt HOWN.out b hb))) (some ⟨w2.heap.size, 0, none⟩) 1 1 [.slice a len cap] (by rfl) (one_row _ _) (by intro u hu; rw [List.mem_singleton.1 hu]; rfl) (by unfold maxLen; omega) (by omega) (by simp; omega) ?_; intro A' c' w4 hown4 hgrow4 _ hob4)
        have HN := Lib.hid (PathsLoop.next HOWN.out HPV.out HBW.out HOK.out HT.out HZ.out HLC.out HBS.out HS.out HB2.out (wall w2 _) hown4 hgrow4 hob4)
        have HG4 := Lib.hid hgrow4
        clear hown4 hgrow4 hob4
        go_roundw
        case rel =>
          exact ⟨k + 1, by omega, by go_num, HN.out⟩
        case measure => simp [intOf]; omega
      · have HZ := Lib.hid hzz
        have hz2 : (z != 0) = true := by simpa using hzz
        have HZE := Lib.hid hz
        clear hzz hz
        go_wp2_with fail
        go_ret2
        rw [← HTS.out, splitsM_bad ts k t HT.out HOK.out (by rw [← HZE.out]; exact HZ.out)]
        exact ⟨none, 0, 0, [], by rw [HZE.out]; rfl, rfl, Nat.le_refl _, RowAt.nil _ _ _, ⟨rfl, fun i q hq => by simp at hq⟩, HB1.out.trans ((HBW.out.trans (HB2.out.mono HBW.out.size)).mono HB1.out.size)⟩
    · have hd : decide ((k : Int) < 1) = false := by simp; omega
      obtain rfl : k = 1 := by omega
      obtain ⟨a, c, vals, rfl, hac, hown⟩ := HR.out.one
      clear hown
      go_wp2_with fail
      go_ret2
      have hd := HR.out
      rw [← HNN.out] at hd
      have := hd.done
      rw [HNN.out, HTS.out] at this
      exact this.up HB1.out
end Go.Proofs.YtmabllemjkcobaaGreatDoor
