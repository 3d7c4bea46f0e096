/- disk: Crash. -/
import Derived.Test.YtkdomgiabiedlaaDiskI
import Derived.Deep.RegionHeld3
namespace Go.Proofs.Ytkdomgiabiedlaa
open Go.ChangeShapes Go.WideShapes Go.ChangeAt Go.RowKit
set_option linter.unusedVariables false

def clampN (cut : Int) : Nat := (min (max cut 0) 128).toNat
/-- A sector behind a crash. -/
def crashRow (M : DiskM) (keep : List Bool) (torn cut : Int) (i : Nat) : List UInt8 :=
  if (dkeys M).contains (i : Int) then
    if (((dkeys M).idxOf (i : Int) : Nat) : Int) = torn then (readOf M i).take (clampN cut) ++ (rowsOf M.safe i).drop (clampN cut)
    else if keep.getD ((dkeys M).idxOf (i : Int)) false then readOf M i else rowsOf M.safe i
  else rowsOf M.safe i
def crashM (M : DiskM) (keep : List Bool) (torn cut : Int) : DiskM := ⟨mix (M.safe.length / 128) (crashRow M keep torn cut), [], M.writes⟩
def crashTo (M : DiskM) (keep : List Bool) (torn cut : Int) (k i : Nat) : List UInt8 := if ((dkeys M).take k).contains (i : Int) then crashRow M keep torn cut i else rowsOf M.safe i
/-- While Crash runs. -/
def CrashRel (w : World) (sb : Nat) (M : DiskM) (keep : List Bool) (torn cut : Int) (k : Nat) (wr : World) : Prop :=
  Keeps (fun x => x = sb) w wr ∧ wr.heap.size = w.heap.size ∧
    wr.heap[sb]? = some (.cells ((mix (M.safe.length / 128) (crashTo M keep torn cut k)).map bv).toArray 5 (0, 0))

theorem crashTo_len {F : Nat → Prop} {d sb mb : Nat} {l : List (Int × Value)} {M : DiskM} {w : World} (h : DiskAt F w d sb mb l M) (keep : List Bool) (torn cut : Int) {i : Nat} (hi : i < M.safe.length / 128) : (crashRow M keep torn cut i).length = 128 := by
  have h1 := readOf_len h hi
  have hl := h.len
  have h2 := rowsOf_len (n := M.safe.length / 128) (s := M.safe) (by omega) hi
  unfold crashRow
  split
  · split
    · simp [h1, h2, clampN]; omega
    · split <;> assumption
  · exact h2

theorem dkeys_nodup {F : Nat → Prop} {d sb mb : Nat} {l : List (Int × Value)} {M : DiskM} {w : World} (h : DiskAt F w d sb mb l M) : (dkeys M).Nodup := by
  have := h.sorted
  unfold ASorted at this
  unfold dkeys List.Nodup
  rw [List.pairwise_map]
  exact this.imp fun {a b} h => by simp at *; omega
theorem take_not {ks : List Int} (hn : ks.Nodup) {k : Nat} {z : Int} (hz : ks[k]? = some z) : z ∉ ks.take k := by
  intro hm
  have h1 : (ks.take k ++ ks.drop k).Nodup := by rw [List.take_append_drop]; exact hn
  rw [List.nodup_append] at h1
  have h2 : z ∈ ks.drop k := List.mem_iff_getElem?.2 ⟨0, by rw [List.getElem?_drop]; simpa using hz⟩
  exact h1.2.2 z hm z h2 rfl
theorem idx_at {ks : List Int} (hn : ks.Nodup) {k : Nat} {z : Int} (hz : ks[k]? = some z) : ks.idxOf z = k := by
  obtain ⟨h2, e2⟩ := List.getElem?_eq_some_iff.1 hz
  rw [← e2]
  exact hn.idxOf_getElem k h2
theorem crash_step {F : Nat → Prop} {d sb mb : Nat} {l : List (Int × Value)} {M : DiskM} {w : World} (h : DiskAt F w d sb mb l M) {keep : List Bool} {torn cut : Int} {k i : Nat} (hki : (dkeys M)[k]? = some (i : Int)) (hi : i < M.safe.length / 128)
    {r : List UInt8} (hr : r.length ≤ 128) (hrow : r ++ (rowsOf M.safe i).drop r.length = crashRow M keep torn cut i) :
    splice (mix (M.safe.length / 128) (crashTo M keep torn cut k)) (i * 128) r = mix (M.safe.length / 128) (crashTo M keep torn cut (k + 1)) := by
  have hn := dkeys_nodup h
  have hlen := h.len
  rw [splice_mix hi (fun j hj => by unfold crashTo; split; exact crashTo_len h keep torn cut hj; exact rowsOf_len (n := M.safe.length / 128) (by omega) hj) hr]
  refine mix_congr fun j hj => ?_
  obtain ⟨h1, e1⟩ := List.getElem?_eq_some_iff.1 hki
  have ht : (dkeys M).take (k + 1) = (dkeys M).take k ++ [(i : Int)] := by rw [List.take_succ_eq_append_getElem h1, e1]
  by_cases hji : j = i
  · subst hji
    rw [if_pos rfl]
    have hnot := take_not hn hki
    unfold crashTo
    rw [if_neg (by simpa using hnot), ht, if_pos (by simp), hrow]
  · rw [if_neg hji]
    unfold crashTo
    rw [ht]
    congr 1
    have : ((j : Int) = (i : Int)) ↔ False := by constructor; intro h; exact hji (by omega); exact False.elim
    simp [this]

set_option maxHeartbeats 1000000 in
theorem dcrash_any {F S : Nat → Prop} {d sb mb : Nat} {l : List (Int × Value)} {M : DiskM} (keep : List Bool) (ka : Option Addr) (kcap : Nat) (torn cut : Int) (w : World) (h : DiskAt F w d sb mb l M) (hkp : RowAt S w ka keep.length (keep.map Value.bool)) (hS : ∀ b, S b → ¬ F b) :
    Calls Try.prog 16 #[.pointer (some ⟨d, 0, none⟩), .slice ka keep.length kcap, .int .i64 torn, .int .i64 cut] w (FlushPost F w d sb mb (crashM M keep torn cut)) := by
  have hdy := ddirty_any w h
  have hdl := dkeys_len h
  have hM := Lib.hid h
  have HKP := Lib.hid hkp
  have HSF := Lib.hid hS
  obtain ⟨hc0, hc1, hc2⟩ := head_cells h
  have hd0 := h.low _ h.own.1
  have hsb0 := h.low _ h.own.2.1
  have hmb0 := h.low _ h.own.2.2
  clear h hkp hS
  go_enter Try.func16, Try.ntmps16
  go_wp2_with fail
  (with_reducible refine hdy.mono ?_)
  rintro e w1 ⟨a, cap, rfl, hrow, hB⟩
  have HR := Lib.hid hrow
  clear hrow hdy
  have hs1 := hB.size
  go_wp2
  go_loopw [14] (fun i wr => ∃ k : Nat, k ≤ (dkeys M).length ∧ i = .int .i64 k ∧ CrashRel w1 sb M keep torn cut k wr) (fun i wr => (dkeys M).length - (intOf i).toNat)
  case atStart =>
    refine ⟨0, by omega, rfl, Keeps.refl _ _, rfl, ?_⟩
    have h := hM.out
    have hl := h.len
    rw [hB.block _ hsb0, h.safe, mix_congr (g := rowsOf M.safe) (fun i _ => by simp [crashTo]), mix_rowsOf (by omega)]
  case round =>
    obtain ⟨k, hk, rfl, hK, hsz, hsb⟩ := hrel
    have hap := hM.out.apart
    have hlow := hM.out.low
    have hown := hM.out.own
    have hdr : wr.heap[d]? = _ := ((hK.block d (by omega) hap.1).trans (hB.block d hd0)).trans hM.out.head
    have hmap : MapAt intK wr mb l := hM.out.map.kept ((hK.block mb (by omega) (Ne.symm hap.2.2)).trans (hB.block mb hmb0))
    have hdc1 : wr.cell? ⟨d, 1, none⟩ = some (.map (some mb)) := by simp [World.cell?, hdr]
    have hdc0 : wr.cell? ⟨d, 0, none⟩ = some (.slice (some ⟨sb, 0, none⟩) M.safe.length M.safe.length) := by simp [World.cell?, hdr]
    have HS := Lib.hid hsb
    have HDR := Lib.hid hdr
    clear hsb hdr hc0 hc1 hc2
    by_cases hlt : k < (dkeys M).length
    · have hkey : (dkeys M)[k]? = some ((dkeys M)[k]) := List.getElem?_eq_getElem hlt
      have hmem : (dkeys M)[k] ∈ dkeys M := List.getElem_mem hlt
      generalize (dkeys M)[k] = z at hkey hmem
      obtain ⟨p, hp, hpz⟩ := List.mem_map.1 hmem
      have hget : aget z M.dirty = some p.2 := hM.out.sorted.get intLt (by rw [← hpz]; exact hp)
      obtain ⟨v, hv1, hl, b, cap2, cur2, rfl, hF, hcur, htk, hc1', hc2', hcs⟩ := relO_some (hM.out.rows z) hget
      have hrg := hM.out.range _ (aget_mem hget)
      have hlen := hM.out.len
      simp only at hrg
      obtain ⟨i, rfl⟩ : ∃ i : Nat, z = i := ⟨z.toNat, by omega⟩
      have hi : i < M.safe.length / 128 := by omega
      have hb0 := hlow _ hF.1
      have hcur1 := ((hK.block b (by omega) hF.2.2.1).trans (hB.block b hb0)).trans hcur
      have hcell : ∀ j u, (p.2.map bv)[j]? = some u → wr.cell? ((⟨b, 0, none⟩ : Addr).add j) = some u := by
        intro j u hu
        rw [add_plain, ← htk] at *
        simp only [World.cell?, hcur1, Nat.zero_add]
        rw [List.getElem?_take] at hu
        split at hu
        · simpa using hu
        · simp at hu
      have hro : readOf M i = p.2 := by simp [readOf, hget]
      have hidx := idx_at (dkeys_nodup hM.out) hkey
      have hcon : (dkeys M).contains (i : Int) = true := by simpa using hmem
      obtain ⟨g, off, rfl, hg1, hg2, hgc⟩ := HR.out.at_ (by omega)
      have hkc : wr.cell? ⟨g, off + k, none⟩ = some (.int .i64 (i : Int)) := by
        rw [World.cell?_of_block (w := w1) (w' := wr) (hK.block g hg2 (by omega)), hgc k hlt, List.getElem?_map, hkey]
        rfl
      have HI1 : i * 128 + 128 ≤ M.safe.length := by omega
      have HI2 : M.safe.length ≤ 524288 := by omega
      have hok : (Lit.int .i64 (i : Int)).wf = true := by simp [Lit.wf, IntKind.min, IntKind.max, IntKind.signed, IntKind.bits]; omega
      have H1 := Lib.hid hv1
      have H2 := Lib.hid hkey
      have H3 := Lib.hid hl
      have H4 := Lib.hid hcell
      have H5 := Lib.hid hro
      have H6 := Lib.hid hidx
      have H7 := Lib.hid hcon
      clear hv1 hkey hl hcell hro hidx hcon hcur htk hcs hcur1 hgc hget hpz hp hmem
      by_cases ht : (k : Int) = torn
      · have e1 : ((k : Int) == torn) = true := by simpa using ht
        clear ht
        go_wp2_with (first | (at_lookup; refine wpList_look intK rfl _ _ 52 22 rfl Try.underlying52 (Try.zero22 _) rfl hmap (i : Int) rfl hok ?_; rw [H1.out]))
        have HE := Lib.hid e1
        obtain ⟨c, hc⟩ : ∃ c, c = clampN cut := ⟨_, rfl⟩
        have hmm : min (max cut 0) 128 = (c : Int) := by subst hc; unfold clampN; omega
        have hc128 : c ≤ 128 := by omega
        have hcap : c ≤ cap2 := by omega
        have hmm0 : (0 : Int) ≤ (c : Int) := by omega
        have hmm1 : (c : Int) ≤ (cap2 : Int) := by omega
        have hn1 : (p.2.take c).length = Nat.min c 128 := by rw [List.length_take, H3.out]
        have hlt2 : (p.2.take c).length ≤ 128 := by rw [hn1]; exact Nat.min_le_right _ _
        have hml : (mix (M.safe.length / 128) (crashTo M keep torn cut k)).length = M.safe.length := by
          rw [mix_len (fun j hj => by unfold crashTo; split; exact crashTo_len hM.out keep torn cut hj; exact rowsOf_len (n := M.safe.length / 128) (by omega) hj)]
          omega
        have hn2 : i * 128 + (p.2.take c).length ≤ ((mix (M.safe.length / 128) (crashTo M keep torn cut k)).map bv).length := by rw [List.length_map, hml]; omega
        have hn3 : ∀ j u, ((p.2.take c).map bv)[j]? = some u → wr.cell? ((⟨b, 0, none⟩ : Addr).add j) = some u := by
          intro j u hu
          rw [List.map_take, List.getElem?_take] at hu
          split at hu
          · exact H4.out j u hu
          · cases hu
        have hrw2 : p.2.take c ++ (rowsOf M.safe i).drop (p.2.take c).length = crashRow M keep torn cut i := by
          unfold crashRow
          rw [if_pos H7.out, H6.out, if_pos (by simpa using e1), H5.out, ← hc]
          congr 2
          rw [hn1]
          show min _ _ = _
          omega
        have hstep := crash_step hM.out H2.out hi hlt2 hrw2
        have HN1 := Lib.hid hn1
        have HN2 := Lib.hid hn2
        have HN3 := Lib.hid hn3
        have HSt := Lib.hid hstep
        have HC := Lib.hid hc
        clear hn1 hn2 hn3 hrw2 hstep hml hc
        go_region_held3 (fun w' => True) (trivial) ((first | (go_at_call 28; refine (dat_c (sb := sb) (N := M.safe.length) i HI1 HI2 _ (by exact hdc0)).mono ?_; rintro e w' ⟨rfl, rfl⟩) | (refine step_copy_v (by rfl) _ _ 22 22 (by rfl) 5 Try.underlying22 Try.size8 (some ⟨b, 0, none⟩) sb (i * 128) 128 (M.safe.length - i * 128) c cap2 (by rfl) (by rfl) _ 5 HS.out (p.2.take c) HN1.out (fun _ => ⟨_, rfl, HN3.out⟩) HN2.out ?_; intro w2 HS2 hK2 hs2)))
        all_goals
          have HX := Lib.hid hK2
          clear hK2
          go_wp2
          go_roundw
          case rel =>
            refine ⟨k + 1, by omega, by go_num, ?_, by rw [hs2]; exact hsz, ?_⟩
            · exact ⟨HX.out.os.trans hK.os, HX.out.tape.trans hK.tape, HX.out.output.trans hK.output, by rw [hs2]; exact hK.size, fun x hx hn => (HX.out.block x (by show x < wr.heap.size; omega) hn).trans (hK.block x hx hn)⟩
            · rw [HS2.out, splice_map, HSt.out]
          case measure => simp [intOf]; omega
      · have e1 : ((k : Int) == torn) = false := by simpa using ht
        have hb : crashRow M keep torn cut i = if keep.getD k false then p.2 else rowsOf M.safe i := by
          unfold crashRow
          rw [if_pos H7.out, H6.out, if_neg ht, H5.out]
        clear ht
        have hlr := rowsOf_len (n := M.safe.length / 128) (s := M.safe) (by omega) hi
        have hml : (mix (M.safe.length / 128) (crashTo M keep torn cut k)).length = M.safe.length := by
          rw [mix_len (fun j hj => by unfold crashTo; split; exact crashTo_len hM.out keep torn cut hj; exact rowsOf_len (n := M.safe.length / 128) (by omega) hj)]
          omega
        by_cases hkl : k < keep.length
        · obtain ⟨b', off', rfl, hS', hlt', hcells⟩ := HKP.out.at_ (by omega)
          have hne : b' ≠ sb := fun e => HSF.out _ hS' (e ▸ hown.2.1)
          have hkc2 : wr.cell? ⟨b', off' + k, none⟩ = some (.bool (keep.getD k false)) := by
            rw [World.cell?_of_block (w := w) (w' := wr) ((hK.block b' (by omega) hne).trans (hB.block b' hlt')), hcells k hkl, List.getElem?_map, List.getElem?_eq_getElem hkl]
            simp [List.getD, List.getElem?_eq_getElem hkl]
          have hdk : decide (k < keep.length) = true := by simpa using hkl
          cases hkv : keep.getD k false with
          | true =>
            rw [hkv] at hkc2 hb
            have hstep := crash_step hM.out H2.out hi (r := p.2) (by rw [H3.out]; omega) (by rw [hb, if_pos rfl, H3.out, List.drop_eq_nil_of_le (by omega), List.append_nil])
            have hn1 : p.2.length = Nat.min 128 128 := by rw [H3.out]; rfl
            have hn2 : i * 128 + p.2.length ≤ ((mix (M.safe.length / 128) (crashTo M keep torn cut k)).map bv).length := by rw [List.length_map, hml, H3.out]; omega
            have HSt := Lib.hid hstep
            have HN1 := Lib.hid hn1
            have HN2 := Lib.hid hn2
            clear hstep hn1 hn2 hb hkv hml hlr hcells
            go_wp2_with (first | (at_lookup; refine wpList_look intK rfl _ _ 52 22 rfl Try.underlying52 (Try.zero22 _) rfl hmap (i : Int) rfl hok ?_; rw [H1.out]) | (go_at_call 28; refine (dat_c (sb := sb) (N := M.safe.length) i HI1 HI2 _ (by exact hdc0)).mono ?_; rintro e w' ⟨rfl, rfl⟩) | (with_reducible refine wpList_copy_v rfl _ _ 22 22 rfl 5 Try.underlying22 Try.size8 (some ⟨b, 0, none⟩) sb (i * 128) 128 (M.safe.length - i * 128) 128 cap2 rfl rfl _ 5 HS.out p.2 HN1.out (fun _ => ⟨_, rfl, H4.out⟩) HN2.out ?_; intro w2 HS2 hK2 hs2; have HX := Lib.hid hK2; clear hK2; go_frame))
            go_roundw
            case rel =>
              refine ⟨k + 1, by omega, by go_num, ?_, by rw [hs2]; exact hsz, ?_⟩
              · exact ⟨HX.out.os.trans hK.os, HX.out.tape.trans hK.tape, HX.out.output.trans hK.output, by rw [hs2]; exact hK.size, fun x hx hn => (HX.out.block x (by omega) hn).trans (hK.block x hx hn)⟩
              · rw [HS2.out, splice_map, HSt.out]
            case measure => simp [intOf]; omega
          | false =>
            rw [hkv] at hkc2 hb
            have hstep := crash_step hM.out H2.out hi (r := []) (by simp) (by rw [hb]; simp)
            have HSt := Lib.hid hstep
            clear hstep hb hkv hml hlr hcells
            go_wp2_with (first | (at_lookup; refine wpList_look intK rfl _ _ 52 22 rfl Try.underlying52 (Try.zero22 _) rfl hmap (i : Int) rfl hok ?_; rw [H1.out]))
            go_roundw
            case rel =>
              refine ⟨k + 1, by omega, by go_num, hK, hsz, ?_⟩
              rw [HS.out, ← HSt.out]
              simp [splice]
            case measure => simp [intOf]; omega
        · have hdk : decide (k < keep.length) = false := by simpa using hkl
          have hgd : keep.getD k false = false := by simp [List.getD, List.getElem?_eq_none (show keep.length ≤ k by omega)]
          rw [hgd] at hb
          have hstep := crash_step hM.out H2.out hi (r := []) (by simp) (by rw [hb]; simp)
          have HSt := Lib.hid hstep
          clear hstep hb hml hlr hgd
          go_wp2_with (first | (at_lookup; refine wpList_look intK rfl _ _ 52 22 rfl Try.underlying52 (Try.zero22 _) rfl hmap (i : Int) rfl hok ?_; rw [H1.out]))
          go_roundw
          case rel =>
            refine ⟨k + 1, by omega, by go_num, hK, hsz, ?_⟩
            rw [HS.out, ← HSt.out]
            simp [splice]
          case measure => simp [intOf]; omega
    · obtain rfl : k = (dkeys M).length := by omega
      go_wp2_with (with_reducible refine wpList_clear intK rfl _ 52 22 rfl Try.underlying52 rfl hmap ?_; intro w2 hM2 hT2)
      go_end0
      have h := hM.out
      have hk2 := Keeps.turned hT2
      have hs2 := turned_size hT2
      refine ⟨rfl, ?_, ?_⟩
      · refine h.cleared (by omega) ?_ ?_ ?_ hM2
        · rw [hk2.block d (by omega) hap.2.1, HDR.out, h.head]
        · rw [hk2.block sb (by omega) hap.2.2, HS.out, mix_congr (g := crashRow M keep torn cut) (fun i _ => ?_)]
          unfold crashTo
          rw [List.take_of_length_le (Nat.le_refl _)]
          split
          · rfl
          · rename_i hh
            unfold crashRow
            rw [if_neg hh]
        · rw [mix_len (fun i hi => crashTo_len h keep torn cut hi)]; have := h.len; omega
      · refine ⟨hk2.os.trans (hK.os.trans hB.os), hk2.tape.trans (hK.tape.trans hB.tape), hk2.output.trans (hK.output.trans hB.output), by omega, fun x hx hn => ?_⟩
        rw [hk2.block x (by omega) (fun e => hn (e ▸ hown.2.2)), hK.block x (by omega) (fun e => hn (e ▸ hown.2.1))]
        exact hB.block x hx
end Go.Proofs.Ytkdomgiabiedlaa
