/- package state: Save. -/
import Derived.Test.YtpgklnhkfgbpgaaGreatDoorM44
import Derived.Test.YtpgklnhkfgbpgaaGreatDoorM40
namespace Go.Proofs.YtpgklnhkfgbpgaaGreatDoor
open Go.ChangeShapes Go.WideShapes Go.ChangeAt Go.RowKit
set_option linter.unusedVariables false
set_option linter.unusedSimpArgs false

def saveSt (M : StM) : List UInt8 := beB M.now 8 ++ beB (saveB (commitM M.t)).length 8 ++ saveB (commitM M.t) ++ saveSn M.s
/-- Snapshots' IDs and hashes are small. -/
def SnIds (S : SnM) : Prop := ∀ x ∈ S.l, (0 ≤ x.id ∧ x.id ≤ S.next) ∧ x.hash.length ≤ 64
theorem SnIds.new : SnIds newSn := fun x hx => by cases hx
theorem SnIds.take {S : SnM} (h : SnIds S) (h0 : 0 ≤ S.next) (T : TrM) : SnIds (takeM S T).2 := by
  unfold takeM
  split
  · exact h
  · intro x hx
    rcases List.mem_append.1 hx with hx | hx
    · have := h x hx
      exact ⟨⟨this.1.1, by have := this.1.2; show x.id ≤ S.next + 1; omega⟩, this.2⟩
    · rw [List.mem_singleton.1 hx]
      exact ⟨⟨h0, by show S.next ≤ S.next + 1; omega⟩, shaM_le _⟩
theorem SnIds.forget {S : SnM} (h : SnIds S) (id now : Int) : SnIds (sforgetM S id now).2 := by
  rcases sforget_eq S id now with e | ⟨k, e⟩
  · rw [e]; exact h
  · rw [e]
    intro x hx
    rcases List.mem_append.1 (show x ∈ S.l.take k ++ S.l.drop (k + 1) from hx) with hx | hx
    · exact h x (List.mem_of_mem_take hx)
    · exact h x (List.mem_of_mem_drop hx)
theorem SnIds.do_ {M : StM} (h : SnIds M.s) (h0 : 0 ≤ M.s.next) (x : OpM) : SnIds (sdoM M x).2.s := by
  have hc := sdo_chg M x
  generalize (sdoM M x).2 = M' at hc ⊢
  cases hc with
  | take => exact h.take h0 _
  | forget => exact h.forget _ _
  | tick h16 => exact h
  | same => exact h
  | make ls kind => exact h
  | create ls h1 h2 => exact h
  | opens T ls y h1 h2 h3 h4 h5 h6 => exact h
  | write f h1 => exact h
  | closes f h1 h2 h3 => exact h
  | shut f h1 h2 => exact h
  | link p q => exact h
  | unlink ls h1 h2 => exact h
  | rmdir ls => exact h
  | rename p q => exact h
  | keep ls h1 => exact h
theorem StOk.sv {c : Int} {M : StM} (h : StOk c M) (hc : c ≤ 1000000000) (hi : SnIds M.s) : SvOk M.s :=
  ⟨h.s.few, h.s.last, ⟨h.next.1, by have := h.next.2; omega⟩, fun x hx => by have := hi x hx; have := h.next.2; exact ⟨⟨by omega, by omega⟩, by omega⟩⟩
theorem saveSn_len {o : Mark} {i : Nat} {w : World} {s : Nat} {S : SnM} (hS : SnapsO o i w s S) (hv : SvOk S) : (saveSn S).length ≤ 50001000 := by
  obtain ⟨v, la, lc, vals, h1, h2, h3, h4, h5, h6, h7, h8⟩ := hS.at_
  have := ones_len h6 fun x hx => (hv.each x hx).2
  have := hv.few
  have := hv.last
  unfold saveSn
  simp only [List.length_append, beB_len, rowB_len]
  omega
section
variable {W w : World} {o : Mark} {i j k p : Nat} {M : StM} {c : Int}
set_option maxRecDepth 100000 in
set_option maxHeartbeats 8000000 in
theorem stsave_any (hS : StateO o i j k w p M) (hM : Marks W o w) (hok : StOk c M) (hv : SvOk M.s) : Calls Tryz.prog 21 #[ptr p] w (RetRow w (saveSt M)) := by
  obtain ⟨t, s, v, h1, h2, h3, h4⟩ := hS.at_
  have hlow := hS.low
  have HC := Lib.hid (committed_any h3 hM hok.t.1)
  have HM := Lib.hid hM
  have HSN := Lib.hid h2
  have HV := Lib.hid hv
  have HOK := Lib.hid hok.t.1.commitM
  have hnow := hok.now
  have HH : Hid (∀ w', Below w.heap.size w w' → w'.cell? ⟨p, 0, none⟩ = some (ptr t) ∧ w'.cell? ⟨p, 1, none⟩ = some (ptr s) ∧ w'.cell? ⟨p, 2, none⟩ = some (.int .u64 M.now)) := fun w' hb => by
    obtain ⟨z0, z1, z2, -⟩ := st_cells ((hb.block p hlow).trans h1)
    exact ⟨z0, z1, z2⟩
  obtain ⟨c0, c1, c2⟩ := HH.out w (Below.refl _ _)
  clear hS hM hok hv h1 h2 h3 h4
  go_enter Tryz.func21, Tryz.ntmps21
  go_wp2_with fail
  (with_reducible refine HC.out.mono ?_)
  rintro e w1 ⟨q, rfl, hT, hb1⟩
  have HT := Lib.hid hT
  have HB1 := Lib.hid hb1
  clear hT hb1 HC
  go_wp2_with fail
  (with_reducible refine (om_save HT.out HOK.out).mono ?_)
  rintro e w2 ⟨ba, bn, bc, rfl, hbc, hbr, hb2⟩
  have hsb := saveB_small HOK.out
  obtain ⟨C, hC⟩ : ∃ C, C = saveB (commitM M.t) := ⟨_, rfl⟩
  rw [← hC] at hbr hsb
  have HCE := Lib.hid hC
  have hbl : bn = C.length := by have := hbr.length; simpa using this.symm
  subst hbl
  have HBR := Lib.hid hbr
  have hb12 := HB1.out.trans (hb2.mono HB1.out.size)
  have HB2 := Lib.hid hb12
  obtain ⟨d0, d1, d2⟩ := HH.out w2 hb12
  clear hbr hb2 hb12 hC c0 c1 c2
  go_wp2_with fail
  (with_reducible refine (newWriter_any _).mono ?_)
  rintro e w3 ⟨rfl, hW3, hb3⟩
  have HW3 := Lib.hid hW3
  have HB3 := Lib.hid hb3
  have hb13 := HB2.out.trans (hb3.mono HB2.out.size)
  obtain ⟨e0, e1, e2⟩ := HH.out w3 hb13
  clear hW3 hb3 hb13 d0 d1 d2
  go_wp2_with fail
  (with_reducible refine (long_any HW3.out M.now hnow.1 (by omega) (by simp)).mono ?_)
  intro e w4 ht4
  obtain ⟨rfl, x4, hW4, hb4⟩ := SvRel.more HW3.out HB3.out ht4
  have HW4 := Lib.hid hW4
  have HB4 := Lib.hid hb4
  have hb14 := HB2.out.trans (hb4.mono HB2.out.size)
  obtain ⟨f0, f1, f2⟩ := HH.out w4 hb14
  have hcv := conv_iu (C.length : Int) (by omega) (by omega)
  clear ht4 hW4 hb4 hb14 e0 e1 e2 HW3
  go_wp2_with fail
  (with_reducible refine (long_any HW4.out (C.length : Int) (by omega) (by omega) (by simp [beB_len])).mono ?_)
  intro e w5 ht5
  obtain ⟨rfl, x5, hW5, hb5⟩ := SvRel.more HW4.out HB4.out ht5
  have HW5 := Lib.hid hW5
  have HB5 := Lib.hid hb5
  have hb15 := HB2.out.trans (hb5.mono HB2.out.size)
  obtain ⟨g0, g1, g2⟩ := HH.out w5 hb15
  have hbr5 := HBR.out.kept hb5.size (fun b hb _ => hb5.block b hb.2)
  clear ht5 hW5 hb5 hb15 f0 f1 f2 HW4 hcv
  go_wp2_with fail
  (with_reducible refine (raw_any HW5.out ba C.length bc C hbr5 (by simp [beB_len]) (by omega)).mono ?_)
  intro e w6 ht6
  obtain ⟨rfl, x6, hW6, hb6⟩ := SvRel.more HW5.out HB5.out ht6
  have HW6 := Lib.hid hW6
  have HB6 := Lib.hid hb6
  have hb16 := HB2.out.trans (hb6.mono HB2.out.size)
  have HB16 := Lib.hid hb16
  obtain ⟨k0, k1, k2⟩ := HH.out w6 hb16
  have HSN6 := Lib.hid (HSN.out.step (I := fun _ => False) (fun e => e) (fun e => e) (Step.grow HM.out hb16))
  have HM6 := Lib.hid (HM.out.grow hb16)
  have hsl := saveSn_len HSN6.out HV.out
  clear ht6 hW6 hb6 hb16 g0 g1 g2 HW5 hbr5
  go_wp2_with fail
  (with_reducible refine (ssave_any HSN6.out HM6.out HV.out).mono ?_)
  rintro e w7 ⟨sa, sn, sc, rfl, hsc, hsr, hb7⟩
  have HSR := Lib.hid hsr
  have HW7 := Lib.hid (HW6.out.below hb7)
  have HB7 := Lib.hid (HB6.out.trans (hb7.mono HB6.out.size))
  have hsl2 : sn = (saveSn M.s).length := by have := hsr.length; simpa using this.symm
  subst hsl2
  clear hsr hb7 HW6
  go_wp2_with fail
  (with_reducible refine (raw_any HW7.out sa (saveSn M.s).length sc (saveSn M.s) HSR.out (by simp [beB_len]; omega) (by omega)).mono ?_)
  intro e w8 ht8
  obtain ⟨rfl, x8, hW8, hb8⟩ := SvRel.more HW7.out HB7.out ht8
  have HW8 := Lib.hid hW8
  have HB8 := Lib.hid hb8
  clear ht8 hW8 hb8 HW7
  go_wp2_with fail
  (with_reducible refine (done_any HW8.out (by simp [beB_len]; omega)).mono ?_)
  rintro e w9 ⟨ra, rn, rc, rfl, hrc, hrr, hb9⟩
  have HRR := Lib.hid hrr
  have HB9 := Lib.hid hb9
  clear hrr hb9
  go_wp2_with fail
  go_ret
  have hs2 := HB2.out.size
  have hs8 := HB8.out.size
  refine ⟨ra, rn, rc, rfl, hrc, ?_, (HB2.out.trans (HB8.out.mono hs2)).trans (HB9.out.mono (by omega))⟩
  have e : [] ++ beB M.now 8 ++ beB (C.length : Int) 8 ++ C ++ saveSn M.s = saveSt M := by
    rw [HCE.out]
    unfold saveSt
    simp
  have h9 := HRR.out
  rw [e] at h9
  exact h9.mono fun b hb => ⟨by omega, hb.2⟩
end
end Go.Proofs.YtpgklnhkfgbpgaaGreatDoor
