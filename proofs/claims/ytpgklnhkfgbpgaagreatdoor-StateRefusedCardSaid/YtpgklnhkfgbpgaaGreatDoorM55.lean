/- package state: what is refused, or only asks, turns nothing. package snap: Save. package state: Save. package state: Open; Turns. package state: Tree (a frozen copy). -/
import Derived.Test.YtpgklnhkfgbpgaaGreatDoorM39
import Derived.Test.YtpgklnhkfgbpgaaGreatDoorM25
import Derived.Test.YtpgklnhkfgbpgaaGreatDoorM26
import Derived.Test.YtpgklnhkfgbpgaaGreatDoorM29
import Derived.Test.YtpgklnhkfgbpgaaGreatDoorM44
import Derived.Test.YtpgklnhkfgbpgaaGreatDoorM35
import Derived.Test.YtpgklnhkfgbpgaaGreatDoorM31
namespace Go.Proofs.YtpgklnhkfgbpgaaGreatDoor
open Go.ChangeShapes Go.WideShapes Go.ChangeAt Go.RowKit
set_option linter.unusedVariables false
set_option linter.unusedSimpArgs false

/-- Refused: only a number is told, and nothing is turned. -/
def Rf (M : StM) (q : ReM × StM) : Prop := q.1.er ≠ 0 → q = (noM q.1.er, M)
theorem Rf.er (M : StM) (e : Int) : Rf M (noM e, M) := fun _ => rfl
theorem Rf.tr {M : StM} {e : Int} {T : TrM} (h : e ≠ 0 → T = M.t) : Rf M (noM e, M.tr T) := fun he => by
  have he : e ≠ 0 := he
  rw [h he]
  rfl
theorem Rf.ok {M M' : StM} {r : ReM} (h : r.er = 0) : Rf M (r, M') := fun he => absurd h he
theorem if_ne {T U : TrM} {e : Int} (h : e ≠ 0) : (if e = 0 then T else U) = U := if_neg h
section
variable (M : StM) (x : OpM)
theorem rf_create (ls : List Nm) : Rf M (screateM M ls) := by
  unfold screateM
  by_cases h1 : freeI M < 0
  · rw [if_pos h1]; exact Rf.er _ _
  · rw [if_neg h1]
    by_cases h2 : (makeM M.t ls 1).1.2 ≠ 0
    · rw [if_pos h2]; exact Rf.tr (M := M) fun _ => make_same' h2
    · rw [if_neg h2]; exact Rf.ok rfl
theorem rf_open (ls : List Nm) (id : Int) : Rf M (sopenM M ls id) := by
  unfold sopenM
  split
  · exact Rf.er _ _
  · split
    · exact Rf.er _ _
    · unfold openT
      split
      · exact Rf.er _ _
      · split
        · exact Rf.er _ _
        · split
          · exact Rf.er _ _
          · split
            · exact Rf.er _ _
            · exact Rf.ok rfl
theorem rf_read : Rf M (sreadM M x, M) := by
  unfold sreadM
  split
  · exact Rf.er _ _
  · rename_i f hf
    intro he
    have he : partE x.at_ x.n ≠ 0 := he
    have hb : x.at_ < 0 ∨ x.n < 0 := by
      unfold partE at he
      split at he
      · assumption
      · simp at he
    have e1 : partB f.b x.at_ x.n = [] := by unfold partB; rw [if_pos hb]
    rw [e1]
    rfl
theorem rf_write : Rf M (swriteM M x) := by
  unfold swriteM
  split
  · exact Rf.er _ _
  · rename_i f hf
    split
    · exact Rf.er _ _
    · by_cases h : (appendM M.t f.id x.data).1 ≠ 0
      · rw [if_pos h]
        refine Rf.tr (M := M) fun _ => ?_
        unfold appendM at h ⊢
        exact if_ne h
      · rw [if_neg h]; exact Rf.ok rfl
theorem rf_close : Rf M (ofEr (scloseM M x)) := by
  unfold scloseM
  split
  · rename_i f hf
    split
    · rename_i h
      exact Rf.tr (M := M) fun _ => seal_same' h
    · exact Rf.ok rfl
  · split
    · exact Rf.er _ _
    · exact Rf.ok rfl
theorem rf_unlink (ls : List Nm) : Rf M (ofEr (sunlinkM M ls)) := by
  unfold sunlinkM
  split
  · exact Rf.er _ _
  · split
    · exact Rf.er _ _
    · exact Rf.tr (M := M) fun h => by unfold unlinkM at h ⊢; exact if_ne h
theorem rf_keep (ls : List Nm) (til : Int) : Rf M (ofEr (skeepM M ls til)) := by
  unfold skeepM
  split
  · exact Rf.er _ _
  · split
    · exact Rf.er _ _
    · exact Rf.tr (M := M) fun h => by unfold keepM at h ⊢; exact if_ne h
theorem rf_look (ls : List Nm) : Rf M (slookM M x ls, M) := by
  unfold slookM
  split
  · exact Rf.er _ _
  · rename_i T hT
    unfold lookT
    split
    · exact Rf.er _ _
    · split
      · exact Rf.ok rfl
      · intro he
        have he : (listM T (lookE T ls).1).2 ≠ 0 := he
        have e1 : (listM T (lookE T ls).1).1 = [] := by
          unfold listM at he ⊢
          split
          · rfl
          · rename_i y hy
            rw [hy] at he
            dsimp only at he
            split
            · rename_i hk; rw [if_pos hk] at he; exact absurd rfl he
            · rfl
        rw [e1]
        rfl
theorem rf_take : Rf M (⟨(takeM M.s M.t).1.2, (takeM M.s M.t).1.1, [], [], none⟩, M.sn (takeM M.s M.t).2) := by
  intro he
  have he : (takeM M.s M.t).1.2 ≠ 0 := he
  have e : takeM M.s M.t = ((0, 4), M.s) := by
    unfold takeM at he ⊢
    split
    · rfl
    · rename_i h; rw [if_neg h] at he; exact absurd rfl he
  rw [e]
  rfl
theorem rf_forget : Rf M (noM (sforgetM M.s x.snap M.now).1, M.sn (sforgetM M.s x.snap M.now).2) := by
  intro he
  have he : (sforgetM M.s x.snap M.now).1 ≠ 0 := he
  have e : (sforgetM M.s x.snap M.now).2 = M.s := by
    unfold sforgetM at he ⊢
    split
    · rfl
    · rename_i k hk
      rw [hk] at he
      dsimp only at he
      split
      · rfl
      · rename_i y hy
        rw [hy] at he
        dsimp only at he
        split
        · rfl
        · rename_i hb; rw [if_neg hb] at he; exact absurd rfl he
  rw [e]
  rfl
/-- What is refused turns nothing. -/
theorem sdo_refused : Rf M (sdoM M x) := by
  unfold sdoM
  by_cases h0 : (pathsO x).2 ≠ 0
  · rw [if_pos h0]; exact Rf.er _ _
  rw [if_neg h0]
  unfold sdoP
  by_cases h1 : x.kind = 1
  · rw [if_pos h1]; exact rf_create M _
  rw [if_neg h1]
  by_cases h2 : x.kind = 2
  · rw [if_pos h2]; exact Rf.tr (M := M) fun h => make_same' h
  rw [if_neg h2]
  by_cases h3 : x.kind = 3
  · rw [if_pos h3]; exact rf_open M _ _
  rw [if_neg h3]
  by_cases h4 : x.kind = 4
  · rw [if_pos h4]; exact rf_read M x
  rw [if_neg h4]
  by_cases h5 : x.kind = 5
  · rw [if_pos h5]; exact rf_write M x
  rw [if_neg h5]
  by_cases h6 : x.kind = 6
  · rw [if_pos h6]; exact rf_close M x
  rw [if_neg h6]
  by_cases h7 : x.kind = 7
  · rw [if_pos h7]; exact Rf.tr (M := M) fun h => by unfold linkM at h ⊢; exact if_ne h
  rw [if_neg h7]
  by_cases h8 : x.kind = 8
  · rw [if_pos h8]; exact rf_unlink M _
  rw [if_neg h8]
  by_cases h9 : x.kind = 9
  · rw [if_pos h9]; exact Rf.tr (M := M) fun h => by unfold rmdirM at h ⊢; exact if_ne h
  rw [if_neg h9]
  by_cases h10 : x.kind = 10
  · rw [if_pos h10]; exact Rf.tr (M := M) fun h => by unfold renameM at h ⊢; exact if_neg fun hh => h hh.1
  rw [if_neg h10]
  by_cases h11 : x.kind = 11 ∨ x.kind = 12
  · rw [if_pos h11]; exact rf_look M x _
  rw [if_neg h11]
  by_cases h13 : x.kind = 13
  · rw [if_pos h13]; exact rf_keep M _ _
  rw [if_neg h13]
  by_cases h14 : x.kind = 14
  · rw [if_pos h14]; exact rf_take M
  rw [if_neg h14]
  by_cases h15 : x.kind = 15
  · rw [if_pos h15]; exact rf_forget M x
  rw [if_neg h15]
  by_cases h16 : x.kind = 16
  · rw [if_pos h16]; exact Rf.ok rfl
  rw [if_neg h16]
  exact Rf.er _ _
/-- What only asks turns nothing. -/
theorem sdo_asks (h : ¬ (1 ≤ x.kind ∧ x.kind ≤ 17 ∧ x.kind ≠ 4 ∧ x.kind ≠ 11 ∧ x.kind ≠ 12 ∧ x.kind ≠ 17)) : (sdoM M x).2 = M := by
  unfold sdoM
  by_cases h0 : (pathsO x).2 ≠ 0
  · rw [if_pos h0]
  rw [if_neg h0]
  have hr : 1 ≤ x.kind ∧ x.kind ≤ 17 := by
    unfold pathsO at h0
    split at h0
    · assumption
    · simp at h0
  unfold sdoP
  rw [if_neg (by omega), if_neg (by omega), if_neg (by omega)]
  by_cases h4 : x.kind = 4
  · rw [if_pos h4]
  rw [if_neg h4, if_neg (by omega), if_neg (by omega), if_neg (by omega), if_neg (by omega), if_neg (by omega), if_neg (by omega)]
  by_cases h11 : x.kind = 11 ∨ x.kind = 12
  · rw [if_pos h11]
  rw [if_neg h11, if_neg (by omega), if_neg (by omega), if_neg (by omega), if_neg (by omega)]
end
end Go.Proofs.YtpgklnhkfgbpgaaGreatDoor
namespace Go.Proofs.YtpgklnhkfgbpgaaGreatDoor
open Go.ChangeShapes Go.WideShapes Go.ChangeAt Go.RowKit
set_option linter.unusedVariables false
set_option linter.unusedSimpArgs false

def oneB (x : OneM) : List UInt8 := beB x.id 8 ++ rowB x.hash ++ beB (saveB x.t).length 8 ++ saveB x.t
def saveSn (S : SnM) : List UInt8 := beB S.next 8 ++ rowB S.last ++ beB S.l.length 1 ++ S.l.flatMap oneB
/-- What Save asks of snapshots. -/
structure SvOk (S : SnM) : Prop where
  few : S.l.length ≤ 8
  last : S.last.length ≤ 64
  next : 0 ≤ S.next ∧ S.next ≤ 1000000000
  each : ∀ x ∈ S.l, (0 ≤ x.id ∧ x.id ≤ 1000000000) ∧ x.hash.length ≤ 64
theorem saveB_small {T : TrM} (hT : OkM T) : (saveB T).length ≤ 6000000 := by
  have h1 := items_len hT T (fun q hq => hq)
  have h2 := hT.len
  unfold saveB
  rw [List.length_append, beB_len]
  omega
theorem oneB_len {x : OneM} (hT : OkM x.t) (hh : x.hash.length ≤ 64) : (oneB x).length ≤ 6000100 := by
  have := saveB_small hT
  unfold oneB
  simp only [List.length_append, beB_len, rowB_len]
  omega
theorem ones_len {o : Mark} {w : World} : ∀ {vs : List Value} {l : List OneM}, OnesAt o w vs l → (∀ x ∈ l, x.hash.length ≤ 64) → (l.flatMap oneB).length ≤ 6000100 * l.length
  | _, [], _, _ => by simp
  | _, x :: r, ⟨v1, v2, h1, h2, h3⟩, hh => by
    obtain ⟨a, c, q, e1, e2, e3, e4, e5⟩ := h2
    have k1 := oneB_len e5 (hh x (by simp))
    have k2 := ones_len h3 fun y hy => hh y (by simp [hy])
    rw [List.flatMap_cons, List.length_append, List.length_cons]
    omega
theorem take_oneB {l : List OneM} {k : Nat} {x : OneM} (h : l[k]? = some x) : (l.take (k + 1)).flatMap oneB = (l.take k).flatMap oneB ++ oneB x := by
  obtain ⟨hk, e⟩ := List.getElem?_eq_some_iff.1 h
  rw [List.take_succ_eq_append_getElem hk, List.flatMap_append, e]
  simp
theorem take_ones_len {o : Mark} {w : World} {vs : List Value} {l : List OneM} (h : OnesAt o w vs l) (hh : ∀ x ∈ l, x.hash.length ≤ 64) (h8 : l.length ≤ 8) (k : Nat) : ((l.take k).flatMap oneB).length ≤ 50000000 := by
  have := ones_len (h.take k) fun x hx => hh x (List.mem_of_mem_take hx)
  have h9 : (l.take k).length ≤ 8 := by rw [List.length_take]; omega
  omega
/-- These blocks are not the writer's. -/
def Aside (x : Nat) (v : Value) (lo hi : Nat) : Prop := ∀ b, lo ≤ b → b < hi → b ≠ x ∧ v.ownBlock ≠ some b
theorem Aside.more {B x lo hi : Nat} {w w' : World} {v v' : Value} {bs' : List UInt8} (h : Aside x v lo hi) (hm : WMore B w x v bs' v' w') (hw : hi ≤ w.heap.size) : Aside x v' lo hi ∧ ∀ b, lo ≤ b → b < hi → w'.heap[b]? = w.heap[b]? := by
  refine ⟨fun b h1 h2 => ⟨(h b h1 h2).1, fun h9 => ?_⟩, fun b h1 h2 => hm.2.1.block b (by omega) fun h9 => ?_⟩
  · rcases hm.2.2 b h9 with h3 | h3
    · exact (h b h1 h2).2 h3
    · omega
  · rcases h9 with h3 | h3
    · exact (h b h1 h2).1 h3
    · exact (h b h1 h2).2 h3
section
variable {W w : World} {o : Mark} {i s : Nat} {S : SnM}
/-- Writing so far. -/
def SvRel (w : World) (x : Nat) (bs : List UInt8) (wr : World) : Prop := ∃ v, WriterAt w.heap.size wr x v bs ∧ Below w.heap.size w wr
theorem SvRel.more {w : World} {x : Nat} {bs bs' : List UInt8} {wr w' : World} {v : Value} {e : Ending} (h : WriterAt w.heap.size wr x v bs) (hb : Below w.heap.size w wr) (ht : WTurn w.heap.size wr x v bs' e w') : e = .returned (.tuple #[]) ∧ SvRel w x bs' w' := by
  obtain ⟨rfl, v', hm⟩ := ht
  exact ⟨rfl, v', hm.1, hb.trans (hm.low h)⟩
theorem conv_iu (z : Int) (h0 : 0 ≤ z) (h1 : z ≤ 1000000000) : ∀ w, (convert 3 29 (.int .i64 z)).run Tryz.prog w = .ok (.int .u64 z) w := fun w => by
  have hk : Tryz.prog.intKind 29 = .u64 := by kernel_rfl
  have := run_convert_int (P := Tryz.prog) w 3 29 .i64 z (by rw [Tryz.underlying3]; rfl) (by rw [hk]; exact Tryz.underlying29)
  rw [this, hk]
  have e : IntKind.u64.wrap z = z := by
    show z % 18446744073709551616 = z
    omega
  rw [e]
set_option maxRecDepth 100000 in
set_option maxHeartbeats 8000000 in
theorem ssave_any (hS : SnapsO o i w s S) (hM : Marks W o w) (hv : SvOk S) : Calls Tryz.prog 56 #[ptr s] w (RetRow w (saveSn S)) := by
  obtain ⟨v, la, lc, vals, h1, h2, h3, h4, h5, h6, h7, h8⟩ := hS.at_
  obtain ⟨a, c, rfl, hcap⟩ := own_form h4
  have hfew := hv.few
  obtain ⟨-, -, hrow⟩ := RowAt.of_rown h4 (by unfold maxLen; omega)
  have HON := Lib.hid h6
  have HROW := Lib.hid hrow
  have HLR := Lib.hid h8
  have HLC := Lib.hid h7
  have HM := Lib.hid hM
  have HV := Lib.hid hv
  have HTK := Lib.hid (take_ones_len h6 (fun x hx => (hv.each x hx).2) hv.few)
  have HH : Hid (∀ w', Below w.heap.size w w' → w'.cell? ⟨s, 0, none⟩ = some (.slice a S.l.length c) ∧ w'.cell? ⟨s, 1, none⟩ = some (.int .i64 S.next) ∧ w'.cell? ⟨s, 2, none⟩ = some (.slice la S.last.length lc)) := fun w' hb => by
    have := (hb.block s h3).trans h1
    refine ⟨?_, ?_, ?_⟩ <;> simp [World.cell?, this]
  have hcn := conv_iu S.next hv.next.1 hv.next.2
  obtain ⟨n, hn⟩ : ∃ n, n = S.l.length := ⟨_, rfl⟩
  have HN := Lib.hid hn
  rw [← hn] at HH hcap hfew
  have hll := hv.last
  have hnx := hv.next
  obtain ⟨c0, c1, c2⟩ := HH.out w (Below.refl _ _)
  clear hS hM hv h1 h2 h4 h5 h6 h7 h8 hrow hn
  go_enter Tryz.func56, Tryz.ntmps56
  go_wp2_with fail
  (with_reducible refine (newWriter_any _).mono ?_)
  rintro e w1 ⟨rfl, hW1, hb1⟩
  have HW1 := Lib.hid hW1
  have HB1 := Lib.hid hb1
  obtain ⟨d0, d1, d2⟩ := HH.out w1 hb1
  clear hW1 hb1 c0 c1 c2
  go_wp2_with fail
  (with_reducible refine (long_any HW1.out S.next hnx.1 (by omega) (by simp)).mono ?_)
  intro e w2 ht2
  obtain ⟨rfl, x2, hW2, hb2⟩ := SvRel.more HW1.out HB1.out ht2
  have HW2 := Lib.hid hW2
  have HB2 := Lib.hid hb2
  obtain ⟨e0, e1, e2⟩ := HH.out w2 hb2
  clear ht2 hW2 hb2 d0 d1 d2 HW1
  go_wp2_with fail
  have hlr := HLR.out.below HB2.out (Nat.le_refl _)
  (with_reducible refine (bytes_w HW2.out la S.last.length lc S.last hlr (fun b hb => ⟨by have := HW2.out.low; omega, fun h9 => by have := own_block_ge HW2.out.own b h9; omega⟩) HLC.out (by simp [beB_len]) (by omega)).mono ?_)
  intro e w3 ht3
  obtain ⟨rfl, x3, hW3, hb3⟩ := SvRel.more HW2.out HB2.out ht3
  have HW3 := Lib.hid hW3
  have HB3 := Lib.hid hb3
  obtain ⟨f0, f1, f2⟩ := HH.out w3 hb3
  clear ht3 hW3 hb3 e0 e1 e2 HW2 hlr
  go_wp2_with fail
  (with_reducible refine (byte_any HW3.out (n : Int) (by omega) (by omega) (by simp [beB_len]; omega)).mono ?_)
  intro e w4 ht4
  obtain ⟨rfl, x4, hW4, hb4⟩ := SvRel.more HW3.out HB3.out ht4
  have HW4 := Lib.hid hW4
  have HB4 := Lib.hid hb4
  obtain ⟨k0, k1, k2⟩ := HH.out w4 hb4
  clear ht4 hW4 hb4 f0 f1 f2 HW3
  obtain ⟨pre, hpre⟩ : ∃ pre, pre = [] ++ beB S.next 8 ++ (beB (S.last.length : Int) 2 ++ S.last) ++ beB (n : Int) 1 := ⟨_, rfl⟩
  have hprl : pre.length ≤ 1000 := by rw [hpre]; simp [beB_len]; omega
  rw [← hpre] at HW4
  have HPRE := Lib.hid hpre
  clear hpre
  go_wp2_with fail
  go_loopw [5, 6, 33] (fun _ _ iv wr => ∃ k : Nat, iv = .int .i64 k ∧ k ≤ n ∧ SvRel w w.heap.size (pre ++ (S.l.take k).flatMap oneB) wr) (fun _ _ iv _ => n - (intOf iv).toNat)
  case atStart => exact ⟨0, rfl, Nat.zero_le _, x4, by simpa using HW4.out, HB4.out⟩
  case round =>
    obtain ⟨k, rfl, hk, y, hy, hby⟩ := hrel
    have HY := Lib.hid hy
    have HBY := Lib.hid hby
    have hbl := HTK.out k
    clear hy hby
    by_cases hlt : k < n
    · have hd : decide ((k : Int) < (n : Int)) = true := by simpa using hlt
      obtain ⟨x, hx⟩ : ∃ x, S.l[k]? = some x := ⟨S.l[k]'(by have := HN.out; omega), List.getElem?_eq_getElem _⟩
      have HRW := HROW.out
      rw [← HN.out] at HRW
      obtain ⟨g, off, rfl, hgw, _, hcell⟩ := HRW.at_ (by omega)
      obtain ⟨ha, hcp, q, r0, r1, r2, r3, r4, r5, r6⟩ := HON.out.at_ hx
      have q0 : wr.cell? ⟨g, off + k * 3, none⟩ = some (.int .i64 x.id) := (HBY.out.cell (p := ⟨g, off + k * 3, none⟩) hgw.2).trans ((hcell (k * 3) (by omega)).trans r0)
      have q1 : wr.cell? ⟨g, off + k * 3 + 1, none⟩ = some (.slice ha x.hash.length hcp) := (HBY.out.cell (p := ⟨g, off + k * 3 + 1, none⟩) hgw.2).trans ((hcell (k * 3 + 1) (by omega)).trans r1)
      have q2 : wr.cell? ⟨g, off + k * 3 + 2, none⟩ = some (ptr q) := (HBY.out.cell (p := ⟨g, off + k * 3 + 2, none⟩) hgw.2).trans ((hcell (k * 3 + 2) (by omega)).trans r2)
      have hid := HV.out.each x (List.mem_of_getElem? hx)
      have hci := conv_iu x.id hid.1.1 hid.1.2
      have hsb := saveB_small r6
      have hcb := conv_iu ((saveB x.t).length : Int) (by omega) (by omega)
      have HX := Lib.hid hx
      have HR4 := Lib.hid r4
      have HR5 := Lib.hid r5
      have HR6 := Lib.hid r6
      have i0 : (0 : Int) ≤ (k : Int) := by omega
      have i1 : (k : Int) < (n : Int) := by omega
      have hs0 := HBY.out.size
      clear hx r0 r1 r2 r4 r5 r6 hcell HRW
      go_wp2_with fail
      have hub := wall wr (.cells #[.int .i64 x.id, .slice ha x.hash.length hcp, ptr q] 108)
      have hu1 := (MapKept.heap_alloc wr (.cells #[.int .i64 x.id, .slice ha x.hash.length hcp, ptr q] 108)).1
      (with_reducible refine (om_save (HR5.out.grow (HBY.out.trans (Below.mono hub hs0))) HR6.out).mono ?_)
      rintro e u2 ⟨ba, bn, bc, rfl, hbc, hbr, hb6⟩
      have hbl2 : bn = (saveB x.t).length := by have := hbr.length; simpa using this.symm
      subst hbl2
      have hyl := own_lt HY.out.own
      have hxl := HY.out.lt
      have hu2 := (hb6.block wr.heap.size (by simp)).trans hu1
      have hbu : Below wr.heap.size wr u2 := hub.trans (hb6.mono hub.size)
      have HBR := Lib.hid (hbr.mono (S' := fun b => wr.heap.size ≤ b ∧ b < u2.heap.size) fun b hb => ⟨Nat.le_trans hub.size hb.1, hb.2⟩)
      have HAS : Hid (Aside w.heap.size y wr.heap.size u2.heap.size) := fun b h1 h2 => ⟨by omega, fun h9 => by have := hyl b h9; omega⟩
      have HW6 := Lib.hid (HY.out.below hbu)
      have HB6 := Lib.hid (HBY.out.trans (hbu.mono hs0))
      have HU2 := Lib.hid hu2
      have hwu : wr.heap.size < u2.heap.size := (Array.getElem?_eq_some_iff.1 hu2).1
      have v0 : u2.cell? ⟨wr.heap.size, 0, none⟩ = some (.int .i64 x.id) := by simp [World.cell?, hu2]
      have v1 : u2.cell? ⟨wr.heap.size, 1, none⟩ = some (.slice ha x.hash.length hcp) := by simp [World.cell?, hu2]
      have hl6 : (pre ++ (S.l.take k).flatMap oneB).length ≤ 50001000 := by rw [List.length_append]; omega
      obtain ⟨b0, hb0⟩ : ∃ b0, b0 = pre ++ (S.l.take k).flatMap oneB := ⟨_, rfl⟩
      rw [← hb0] at hl6
      have HW6' : Hid (WriterAt w.heap.size u2 w.heap.size y b0) := by rw [hb0]; exact HW6
      have HBQ := Lib.hid hb0
      clear hub hu1 hbr hb6 hyl hu2 hbu q0 q1 q2 HY HW6 hb0
      go_wp2_with fail
      (with_reducible refine (long_any HW6'.out x.id hid.1.1 (by omega) (by omega)).mono ?_)
      rintro e u3 ⟨rfl, y3, hm3⟩
      obtain ⟨has3, hk3⟩ := HAS.out.more hm3 (Nat.le_refl _)
      have hu3 := (hk3 wr.heap.size (Nat.le_refl _) hwu).trans HU2.out
      have HW7 := Lib.hid hm3.1
      have HB7 := Lib.hid (HB6.out.trans (hm3.low HW6'.out))
      have HAS3 := Lib.hid has3
      have hs3 := hm3.2.1.size
      have HBR3 := Lib.hid (HBR.out.kept hs3 (fun b hb _ => hk3 b hb.1 hb.2))
      have v1' : u3.cell? ⟨wr.heap.size, 1, none⟩ = some (.slice ha x.hash.length hcp) := by simp [World.cell?, hu3]
      clear hm3 has3 hk3 hu3 v0 v1 HW6' HBR
      go_wp2_with fail
      have hhr := HR4.out.below HB7.out (Nat.le_refl _)
      (with_reducible refine (bytes_w HW7.out ha x.hash.length hcp x.hash hhr (fun b hb => ⟨by omega, fun h9 => by have := own_block_ge HW7.out.own b h9; omega⟩) (by omega) (by simp [beB_len]; omega) (by omega)).mono ?_)
      rintro e u4 ⟨rfl, y4, hm4⟩
      obtain ⟨has4, hk4⟩ := HAS3.out.more hm4 hs3
      have hs4 := hm4.2.1.size
      have HW8 := Lib.hid hm4.1
      have HB8 := Lib.hid (HB7.out.trans (hm4.low HW7.out))
      have HAS4 := Lib.hid has4
      have HBR4 := Lib.hid (HBR3.out.kept hs4 (fun b hb _ => hk4 b hb.1 hb.2))
      clear hm4 has4 hk4 v1' hhr HW7 HBR3
      go_wp2_with fail
      (with_reducible refine (long_any HW8.out ((saveB x.t).length : Int) (by omega) (by omega) (by simp [beB_len]; omega)).mono ?_)
      rintro e u5 ⟨rfl, y5, hm5⟩
      obtain ⟨has5, hk5⟩ := HAS4.out.more hm5 (by omega)
      have hs5 := hm5.2.1.size
      have HW9 := Lib.hid hm5.1
      have HB9 := Lib.hid (HB8.out.trans (hm5.low HW8.out))
      have HBR5 := Lib.hid (HBR4.out.kept hs5 (fun b hb _ => hk5 b hb.1 hb.2))
      clear hm5 has5 hk5 HW8 HBR4
      go_wp2_with fail
      (with_reducible refine (raw_any HW9.out ba (saveB x.t).length bc (saveB x.t) HBR5.out (by simp [beB_len]; omega) (by omega)).mono ?_)
      rintro e u6 ⟨rfl, y6, hm6⟩
      have HWA := Lib.hid hm6.1
      have HBA := Lib.hid (HB9.out.trans (hm6.low HW9.out))
      clear hm6 HW9 HBR5
      go_wp2_with fail
      go_roundw
      case rel =>
        refine ⟨k + 1, by go_num, by omega, y6, ?_, HBA.out⟩
        have h9 := HWA.out
        rw [HBQ.out] at h9
        rw [take_oneB HX.out, oneB, rowB]
        simpa only [List.append_assoc] using h9
      case measure => simp [intOf]; omega
    · have hd : decide ((k : Int) < (n : Int)) = false := by simp; omega
      obtain rfl : k = n := by omega
      have hkl : S.l.take k = S.l := List.take_of_length_le (by have := HN.out; omega)
      rw [hkl] at HY hbl
      go_wp2_with fail
      (with_reducible refine (done_any HY.out (by rw [List.length_append]; omega)).mono ?_)
      rintro e u2 ⟨ba, bn, bc, rfl, hbc, hbr, hb6⟩
      have HBR := Lib.hid hbr
      have HB6 := Lib.hid hb6
      clear hbr hb6
      go_wp2_with fail
      go_ret
      have hs0 := HBY.out.size
      refine ⟨ba, bn, bc, rfl, hbc, ?_, HBY.out.trans (HB6.out.mono hs0)⟩
      have e : pre ++ S.l.flatMap oneB = saveSn S := by
        rw [HPRE.out, HN.out]
        unfold saveSn rowB
        simp
      have h9 := HBR.out
      rw [e] at h9
      exact h9.mono fun b hb => ⟨by omega, hb.2⟩
end
end Go.Proofs.YtpgklnhkfgbpgaaGreatDoor
namespace Go.Proofs.YtpgklnhkfgbpgaaGreatDoor
open Go.ChangeShapes Go.WideShapes Go.ChangeAt Go.RowKit
set_option linter.unusedVariables false
set_option linter.unusedSimpArgs false

def saveSt (M : StM) : List UInt8 := beB M.now 8 ++ beB (saveB (commitM M.t)).length 8 ++ saveB (commitM M.t) ++ saveSn M.s
/-- Snapshots' IDs and hashes are small. -/
def SnIds (S : SnM) : Prop := ∀ x ∈ S.l, (0 ≤ x.id ∧ x.id ≤ S.next) ∧ x.hash.length ≤ 64
theorem SnIds.new : SnIds newSn := fun x hx => by cases hx
theorem SnIds.take {S : SnM} (h : SnIds S) (h0 : 0 ≤ S.next) (T : TrM) : SnIds (takeM S T).2 := by
  unfold takeM
  split
  · exact h
  · intro x hx
    rcases List.mem_append.1 hx with hx | hx
    · have := h x hx
      exact ⟨⟨this.1.1, by have := this.1.2; show x.id ≤ S.next + 1; omega⟩, this.2⟩
    · rw [List.mem_singleton.1 hx]
      exact ⟨⟨h0, by show S.next ≤ S.next + 1; omega⟩, shaM_le _⟩
theorem SnIds.forget {S : SnM} (h : SnIds S) (id now : Int) : SnIds (sforgetM S id now).2 := by
  rcases sforget_eq S id now with e | ⟨k, e⟩
  · rw [e]; exact h
  · rw [e]
    intro x hx
    rcases List.mem_append.1 (show x ∈ S.l.take k ++ S.l.drop (k + 1) from hx) with hx | hx
    · exact h x (List.mem_of_mem_take hx)
    · exact h x (List.mem_of_mem_drop hx)
theorem SnIds.do_ {M : StM} (h : SnIds M.s) (h0 : 0 ≤ M.s.next) (x : OpM) : SnIds (sdoM M x).2.s := by
  have hc := sdo_chg M x
  generalize (sdoM M x).2 = M' at hc ⊢
  cases hc with
  | take => exact h.take h0 _
  | forget => exact h.forget _ _
  | tick h16 => exact h
  | same => exact h
  | make ls kind => exact h
  | create ls h1 h2 => exact h
  | opens T ls y h1 h2 h3 h4 h5 h6 => exact h
  | write f h1 => exact h
  | closes f h1 h2 h3 => exact h
  | shut f h1 h2 => exact h
  | link p q => exact h
  | unlink ls h1 h2 => exact h
  | rmdir ls => exact h
  | rename p q => exact h
  | keep ls h1 => exact h
theorem StOk.sv {c : Int} {M : StM} (h : StOk c M) (hc : c ≤ 1000000000) (hi : SnIds M.s) : SvOk M.s :=
  ⟨h.s.few, h.s.last, ⟨h.next.1, by have := h.next.2; omega⟩, fun x hx => by have := hi x hx; have := h.next.2; exact ⟨⟨by omega, by omega⟩, by omega⟩⟩
theorem saveSn_len {o : Mark} {i : Nat} {w : World} {s : Nat} {S : SnM} (hS : SnapsO o i w s S) (hv : SvOk S) : (saveSn S).length ≤ 50001000 := by
  obtain ⟨v, la, lc, vals, h1, h2, h3, h4, h5, h6, h7, h8⟩ := hS.at_
  have := ones_len h6 fun x hx => (hv.each x hx).2
  have := hv.few
  have := hv.last
  unfold saveSn
  simp only [List.length_append, beB_len, rowB_len]
  omega
section
variable {W w : World} {o : Mark} {i j k p : Nat} {M : StM} {c : Int}
set_option maxRecDepth 100000 in
set_option maxHeartbeats 8000000 in
theorem stsave_any (hS : StateO o i j k w p M) (hM : Marks W o w) (hok : StOk c M) (hv : SvOk M.s) : Calls Tryz.prog 21 #[ptr p] w (RetRow w (saveSt M)) := by
  obtain ⟨t, s, v, h1, h2, h3, h4⟩ := hS.at_
  have hlow := hS.low
  have HC := Lib.hid (committed_any h3 hM hok.t.1)
  have HM := Lib.hid hM
  have HSN := Lib.hid h2
  have HV := Lib.hid hv
  have HOK := Lib.hid hok.t.1.commitM
  have hnow := hok.now
  have HH : Hid (∀ w', Below w.heap.size w w' → w'.cell? ⟨p, 0, none⟩ = some (ptr t) ∧ w'.cell? ⟨p, 1, none⟩ = some (ptr s) ∧ w'.cell? ⟨p, 2, none⟩ = some (.int .u64 M.now)) := fun w' hb => by
    obtain ⟨z0, z1, z2, -⟩ := st_cells ((hb.block p hlow).trans h1)
    exact ⟨z0, z1, z2⟩
  obtain ⟨c0, c1, c2⟩ := HH.out w (Below.refl _ _)
  clear hS hM hok hv h1 h2 h3 h4
  go_enter Tryz.func21, Tryz.ntmps21
  go_wp2_with fail
  (with_reducible refine HC.out.mono ?_)
  rintro e w1 ⟨q, rfl, hT, hb1⟩
  have HT := Lib.hid hT
  have HB1 := Lib.hid hb1
  clear hT hb1 HC
  go_wp2_with fail
  (with_reducible refine (om_save HT.out HOK.out).mono ?_)
  rintro e w2 ⟨ba, bn, bc, rfl, hbc, hbr, hb2⟩
  have hsb := saveB_small HOK.out
  obtain ⟨C, hC⟩ : ∃ C, C = saveB (commitM M.t) := ⟨_, rfl⟩
  rw [← hC] at hbr hsb
  have HCE := Lib.hid hC
  have hbl : bn = C.length := by have := hbr.length; simpa using this.symm
  subst hbl
  have HBR := Lib.hid hbr
  have hb12 := HB1.out.trans (hb2.mono HB1.out.size)
  have HB2 := Lib.hid hb12
  obtain ⟨d0, d1, d2⟩ := HH.out w2 hb12
  clear hbr hb2 hb12 hC c0 c1 c2
  go_wp2_with fail
  (with_reducible refine (newWriter_any _).mono ?_)
  rintro e w3 ⟨rfl, hW3, hb3⟩
  have HW3 := Lib.hid hW3
  have HB3 := Lib.hid hb3
  have hb13 := HB2.out.trans (hb3.mono HB2.out.size)
  obtain ⟨e0, e1, e2⟩ := HH.out w3 hb13
  clear hW3 hb3 hb13 d0 d1 d2
  go_wp2_with fail
  (with_reducible refine (long_any HW3.out M.now hnow.1 (by omega) (by simp)).mono ?_)
  intro e w4 ht4
  obtain ⟨rfl, x4, hW4, hb4⟩ := SvRel.more HW3.out HB3.out ht4
  have HW4 := Lib.hid hW4
  have HB4 := Lib.hid hb4
  have hb14 := HB2.out.trans (hb4.mono HB2.out.size)
  obtain ⟨f0, f1, f2⟩ := HH.out w4 hb14
  have hcv := conv_iu (C.length : Int) (by omega) (by omega)
  clear ht4 hW4 hb4 hb14 e0 e1 e2 HW3
  go_wp2_with fail
  (with_reducible refine (long_any HW4.out (C.length : Int) (by omega) (by omega) (by simp [beB_len])).mono ?_)
  intro e w5 ht5
  obtain ⟨rfl, x5, hW5, hb5⟩ := SvRel.more HW4.out HB4.out ht5
  have HW5 := Lib.hid hW5
  have HB5 := Lib.hid hb5
  have hb15 := HB2.out.trans (hb5.mono HB2.out.size)
  obtain ⟨g0, g1, g2⟩ := HH.out w5 hb15
  have hbr5 := HBR.out.kept hb5.size (fun b hb _ => hb5.block b hb.2)
  clear ht5 hW5 hb5 hb15 f0 f1 f2 HW4 hcv
  go_wp2_with fail
  (with_reducible refine (raw_any HW5.out ba C.length bc C hbr5 (by simp [beB_len]) (by omega)).mono ?_)
  intro e w6 ht6
  obtain ⟨rfl, x6, hW6, hb6⟩ := SvRel.more HW5.out HB5.out ht6
  have HW6 := Lib.hid hW6
  have HB6 := Lib.hid hb6
  have hb16 := HB2.out.trans (hb6.mono HB2.out.size)
  have HB16 := Lib.hid hb16
  obtain ⟨k0, k1, k2⟩ := HH.out w6 hb16
  have HSN6 := Lib.hid (HSN.out.step (I := fun _ => False) (fun e => e) (fun e => e) (Step.grow HM.out hb16))
  have HM6 := Lib.hid (HM.out.grow hb16)
  have hsl := saveSn_len HSN6.out HV.out
  clear ht6 hW6 hb6 hb16 g0 g1 g2 HW5 hbr5
  go_wp2_with fail
  (with_reducible refine (ssave_any HSN6.out HM6.out HV.out).mono ?_)
  rintro e w7 ⟨sa, sn, sc, rfl, hsc, hsr, hb7⟩
  have HSR := Lib.hid hsr
  have HW7 := Lib.hid (HW6.out.below hb7)
  have HB7 := Lib.hid (HB6.out.trans (hb7.mono HB6.out.size))
  have hsl2 : sn = (saveSn M.s).length := by have := hsr.length; simpa using this.symm
  subst hsl2
  clear hsr hb7 HW6
  go_wp2_with fail
  (with_reducible refine (raw_any HW7.out sa (saveSn M.s).length sc (saveSn M.s) HSR.out (by simp [beB_len]; omega) (by omega)).mono ?_)
  intro e w8 ht8
  obtain ⟨rfl, x8, hW8, hb8⟩ := SvRel.more HW7.out HB7.out ht8
  have HW8 := Lib.hid hW8
  have HB8 := Lib.hid hb8
  clear ht8 hW8 hb8 HW7
  go_wp2_with fail
  (with_reducible refine (done_any HW8.out (by simp [beB_len]; omega)).mono ?_)
  rintro e w9 ⟨ra, rn, rc, rfl, hrc, hrr, hb9⟩
  have HRR := Lib.hid hrr
  have HB9 := Lib.hid hb9
  clear hrr hb9
  go_wp2_with fail
  go_ret
  have hs2 := HB2.out.size
  have hs8 := HB8.out.size
  refine ⟨ra, rn, rc, rfl, hrc, ?_, (HB2.out.trans (HB8.out.mono hs2)).trans (HB9.out.mono (by omega))⟩
  have e : [] ++ beB M.now 8 ++ beB (C.length : Int) 8 ++ C ++ saveSn M.s = saveSt M := by
    rw [HCE.out]
    unfold saveSt
    simp
  have h9 := HRR.out
  rw [e] at h9
  exact h9.mono fun b hb => ⟨by omega, hb.2⟩
end
end Go.Proofs.YtpgklnhkfgbpgaaGreatDoor
namespace Go.Proofs.YtpgklnhkfgbpgaaGreatDoor
open Go.ChangeShapes Go.WideShapes Go.ChangeAt Go.RowKit
set_option linter.unusedVariables false
set_option linter.unusedSimpArgs false

/-- The first so many descriptors that are not free. -/
def openTo (M : StM) (k : Nat) : List Int := ((List.range k).filter fun n => (M.fds n).isSome).map fun n : Nat => (n : Int)
def openL (M : StM) : List Int := openTo M 8
theorem openTo_some {M : StM} {k : Nat} {f : FdM} (h : M.fds k = some f) : openTo M (k + 1) = openTo M k ++ [(k : Int)] := by
  unfold openTo
  rw [List.range_succ, List.filter_append, List.map_append, List.filter_cons_of_pos (by rw [h]; rfl)]
  rfl
theorem openTo_none {M : StM} {k : Nat} (h : M.fds k = none) : openTo M (k + 1) = openTo M k := by
  unfold openTo
  rw [List.range_succ, List.filter_append, List.map_append, List.filter_cons_of_neg (by rw [h]; simp)]
  simp
theorem openTo_len (M : StM) (k : Nat) : (openTo M k).length ≤ k := by
  unfold openTo
  rw [List.length_map]
  have := List.length_filter_le (fun n => (M.fds n).isSome) (List.range k)
  rw [List.length_range] at this
  exact this
section
variable {W w : World} {o : Mark} {i j k p : Nat} {M : StM}
set_option maxRecDepth 100000 in
set_option maxHeartbeats 4000000 in
theorem sopens_any (h : StateO o i j k w p M) : Calls Tryz.prog 20 #[ptr p] w (NewInts w (openL M)) := by
  obtain ⟨ti, hi, hz0, hz1, hz2⟩ := info_parts infoInt
  obtain ⟨t, s, v, h1, h2, h3, h4⟩ := h.at_
  obtain ⟨c0, c1, c2, c3, c4⟩ := st_cells h1
  have e3 := c3 0 (by omega)
  have e4 := c3 1 (by omega)
  have e5 := c3 2 (by omega)
  have e6 := c3 3 (by omega)
  have e7 := c3 4 (by omega)
  have e8 := c3 5 (by omega)
  have e9 := c3 6 (by omega)
  have e10 := c3 7 (by omega)
  have H4 := Lib.hid h4
  clear h h1 h2 h3 h4 c3 c4
  go_enter Tryz.func20, Tryz.ntmps20
  go_wp2_with fail
  go_loopw [3, 10] (fun u iv wr => ∃ n : Nat, n ≤ 8 ∧ iv = .int .i64 n ∧ wr.ownsRow w.heap.size 3 1 u (openTo M n).length ((openTo M n).map (Value.int .i64)) ∧ Below w.heap.size w wr) (fun _ iv _ => 8 - (intOf iv).toNat)
  case atStart => exact ⟨0, by omega, rfl, ⟨rfl, .inl ⟨rfl, rfl⟩⟩, Below.refl _ _⟩
  case round =>
    obtain ⟨n, hn, rfl, hO, hb⟩ := hrel
    have hbs := hb.size
    have HO := Lib.hid hO
    have HB := Lib.hid hb
    obtain ⟨a5, c5, rfl, hac5⟩ := own_form hO
    clear hO hb
    by_cases hn8 : n < 8
    · have hd : decide ((n : Int) < 8) = true := by simp; omega
      have hix := index_fd v n hn8 wr
      have hf := H4.out n hn8
      have i0 : (0 : Int) ≤ n := by omega
      cases hfd : M.fds n with
      | none =>
        rw [hfd] at hf
        have hv : v n = .pointer none := hf
        rw [hv] at hix
        have HE := Lib.hid (openTo_none hfd)
        clear hf hv hfd
        go_wp2_with fail
        go_roundw
        case rel => exact ⟨n + 1, by omega, by go_num, by rw [HE.out]; exact HO.out, HB.out⟩
        case measure => simp [intOf]; omega
      | some f =>
        rw [hfd] at hf
        obtain ⟨q, fa, fc, hv, _⟩ := hf
        rw [hv] at hix
        have HE := Lib.hid (openTo_some hfd)
        have hb5 : Below wr.heap.size wr (wr.alloc (.cells #[.int .i64 n] 3)) := wall wr _
        have HO5 := Lib.hid (own_below HO.out hb5)
        have HB5 := Lib.hid hb5
        have HROW := Lib.hid (one_row (w := wr) (.int .i64 n) 3)
        have hz5 := hb5.size
        obtain ⟨L, hL⟩ : ∃ L, L = (openTo M n).length := ⟨_, rfl⟩
        have hLn : L ≤ 8 := by rw [hL]; have := openTo_len M n; omega
        rw [← hL] at HO5 hac5
        have HLL := Lib.hid hL
        rw [← hL]
        clear hv hfd hb5 hL
        go_wp2_with (at_builtin; (refine wpList_append_row (by rfl) _ _ 46 (by rfl) w.heap.size 3 ti (.int .i64 0) 8 Tryz.underlying46 hi hz0 hz1 hz2 rfl _ _ _ (by rfl) HO5.out (some ⟨wr.heap.size, 0, none⟩) 1 1 [.int .i64 n] (by rfl) HROW.out (one_ints [(n : Int)]) (by unfold maxLen; omega) (by omega) (Nat.le_trans hbs hz5) ?_); intro A' c' w6 hown6 hgrow6 _ _)
        have HO6 := Lib.hid hown6
        have HG6 := Lib.hid hgrow6
        clear hown6 hgrow6
        go_roundw
        case rel =>
          refine ⟨n + 1, by omega, by go_num, ?_, ?_⟩
          · rw [HE.out, List.map_append, List.length_append, ← HLL.out]
            exact HO6.out
          · exact (HB.out.trans (HB5.out.mono hbs)).grown HG6.out (by omega) (own_block_ge HO5.out)
        case measure => simp [intOf]; omega
    · have hd : decide ((n : Int) < 8) = false := by simp; omega
      obtain rfl : n = 8 := by omega
      go_wp2_with fail
      go_ret
      exact ⟨a5, c5, rfl, hac5, (RowAt.of_own HO.out).2.mono (fun b hb => ⟨by omega, hb.2⟩), HB.out⟩
/-- Whether an operation may turn anything. -/
def turnsB (x : OpM) : Bool := decide (1 ≤ x.kind ∧ x.kind ≤ 17 ∧ x.kind ≠ 4 ∧ x.kind ≠ 11 ∧ x.kind ≠ 12 ∧ x.kind ≠ 17)
end
end Go.Proofs.YtpgklnhkfgbpgaaGreatDoor
namespace Go.Proofs.YtpgklnhkfgbpgaaGreatDoor
open Go.ChangeShapes Go.WideShapes Go.ChangeAt Go.RowKit
set_option linter.unusedVariables false
set_option linter.unusedSimpArgs false

section
variable {W w : World} {o : Mark} {i j k p : Nat} {M : StM}
theorem stree_any (hS : StateO o i j k w p M) (hM : Marks W o w) (hok : OkM M.t) : Calls Tryz.prog 24 #[ptr p] w fun e w' => ∃ q, e = .returned (ptr q) ∧ TreeO o 0 w' q M.t ∧ Below w.heap.size w w' := by
  obtain ⟨t, s, v, h1, h2, h3, h4⟩ := hS.at_
  obtain ⟨z0, z1, z2, z3, z4⟩ := st_cells h1
  have HC := Lib.hid (om_copy0 h3 hM hok)
  clear hS hM hok h1 h2 h3 h4 z1 z2 z3 z4
  go_enter Tryz.func24, Tryz.ntmps24
  go_wp2_with fail
  (with_reducible refine HC.out.mono ?_)
  rintro e w1 ⟨q, rfl, hT, hb⟩
  have HT := Lib.hid hT
  have HB := Lib.hid hb
  clear hT hb
  go_wp2_with fail
  go_ret
  exact ⟨q, rfl, HT.out, HB.out⟩
end
end Go.Proofs.YtpgklnhkfgbpgaaGreatDoor
