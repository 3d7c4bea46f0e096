/- The reference: deep. The reference: onto. -/
import Derived.Test.YtbapdoicejakhaaGreatM36
import Derived.Deep.QuietTactic
import Derived.BigQuiet
namespace Go.Proofs.YtbapdoicejakhaaGreat
open Go.ChangeShapes Go.WideShapes Go.ChangeAt Go.RowKit
set_option linter.unusedVariables false
set_option linter.unusedSimpArgs false

abbrev RDeep (r : Nat) (w : World) (id : Int) (n : Nat) : Prop := Calls Tryz.prog 127 #[ptr r, .int .i64 id] w fun e w' => e = .returned (.int .i64 n) ∧ Below w.heap.size w w'
/-- While deep runs: the most so far. -/
def RDeepRel (E : List Ent) (id : Int) (d : Int → Nat) (M k m : Nat) : Prop := m ≤ M ∧ ∀ e ∈ E.take k, e.1 = id → 1 + d e.2.2 ≤ m
theorem RDeepRel.step {E : List Ent} {id : Int} {d : Int → Nat} {M k m m' : Nat} {e : Ent} (h : RDeepRel E id d M k m) (hx : E[k]? = some e) (hm : m ≤ m') (hM : m' ≤ M) (he : e.1 = id → 1 + d e.2.2 ≤ m') : RDeepRel E id d M (k + 1) m' := by
  obtain ⟨hk, h2⟩ := List.getElem?_eq_some_iff.1 hx
  refine ⟨hM, fun y hy hyi => ?_⟩
  rw [List.take_succ_eq_append_getElem hk, h2] at hy
  rcases List.mem_append.1 hy with h3 | h3
  · exact Nat.le_trans (h.2 y h3 hyi) hm
  · simp only [List.mem_singleton] at h3
    subst h3
    exact he hyi
section
variable {F : Nat → Prop} {r : Nat} {T : TrM}
set_option maxRecDepth 100000 in
set_option maxHeartbeats 8000000 in
theorem rdeep_step (id : Int) (x : ItM) (d : Int → Nat) (w : World) (h : RefAt F w r T) (hT : OkM T) (hx : aget id T = some x) (hd : ∀ e ∈ x.names, d e.2 ≤ 64) (hd0 : ∀ e ∈ x.names, kindM T e.2 ≠ 2 → d e.2 = 0)
    (hc : ∀ e ∈ x.names, kindM T e.2 = 2 → ∀ w1, Below w.heap.size w w1 → RDeep r w1 e.2 (d e.2)) : RDeep r w id (maxD d x.names) := by
  have hE := ents_few hT
  have hr0 := h.low r h.own
  have HH := Lib.hid (fun w1 (hb : Below w.heap.size w w1) => h.below hb (Nat.le_refl _))
  have HT := Lib.hid hT
  have HX := Lib.hid hx
  have HD := Lib.hid hd
  have HD0 := Lib.hid hd0
  have HC := Lib.hid hc
  obtain ⟨n, hn⟩ : ∃ n, n = (entsM T).length := ⟨_, rfl⟩
  rw [← hn] at hE
  have HL := Lib.hid hn
  have hmd : maxD d x.names ≤ 65 := maxD_le d fun e he => by have := hd e he; omega
  obtain ⟨M, hM⟩ : ∃ M, M = maxD d x.names := ⟨_, rfl⟩
  rw [← hM] at hmd ⊢
  have HM := Lib.hid hM
  clear h hT hx hd hd0 hc hn hM
  unfold RDeep
  go_enter Tryz.func127, Tryz.ntmps127
  go_wp2_with fail
  go_loopw [5, 6] (fun v i wr => ∃ k m : Nat, k ≤ n ∧ i = .int .i64 k ∧ v = .int .i64 m ∧ RDeepRel (entsM T) id d M k m ∧ Below w.heap.size w wr) (fun _ i _ => n - (intOf i).toNat)
  case atStart => exact ⟨0, 0, by omega, rfl, rfl, ⟨Nat.zero_le _, by simp⟩, Below.refl _ _⟩
  case round =>
    obtain ⟨k, m, hk, rfl, rfl, hrel, hB⟩ := hrel
    have HR := Lib.hid hrel
    have HB := Lib.hid hB
    have hmM := hrel.1
    have hs := hB.size
    obtain ⟨aE, cE, s2, -, hrow, -⟩ := (HH.out wr hB).ent
    rw [← HL.out] at s2 hrow
    have hrr : r < wr.heap.size := by omega
    clear hrel hB
    by_cases hlt : k < n
    · have hkn : k < (entsM T).length := by have := HL.out; omega
      have hx : (entsM T)[k]? = some ((entsM T)[k]'hkn) := List.getElem?_eq_getElem _
      obtain ⟨q, hqe⟩ : ∃ q, q = (entsM T)[k]'hkn := ⟨_, rfl⟩
      rw [← hqe] at hx
      have HQ := Lib.hid hx
      obtain ⟨b, off, rfl, hF, hb, hi, hcc⟩ := hrow.wide entC_len HL.out.symm hx (by omega)
      have c0 : wr.cell? ⟨b, off + k * 3, none⟩ = some (.int .i64 q.1) := hcc 0 (by omega)
      have c2 : wr.cell? ⟨b, off + k * 3 + 2, none⟩ = some (.int .i64 q.2.2) := hcc 2 (by omega)
      have i0 : (0 : Int) ≤ k := by omega
      have i1 : (k : Int) < n := by omega
      clear hx hqe hrow hcc
      by_cases hp : q.1 = id
      · have hpp : (q.1 == id) = true := by simpa using hp
        have hmem : q.2 ∈ x.names := by
          obtain ⟨z, hz, hm⟩ := (mem_ents HT.out.sorted).1 (List.mem_of_getElem? HQ.out)
          rw [hp, HX.out] at hz
          cases hz
          exact hm
        obtain ⟨y, hy⟩ := Option.isSome_iff_exists.1 (HT.out.leads id x HX.out _ hmem).1
        have HND := Lib.hid (rnode_any q.2.2 wr (HH.out wr HB.out) HT.out.toOkP)
        have hnd : nodeM T q.2.2 = nodeV q.2.2 y := by unfold nodeM; rw [hy]
        rw [hnd] at HND
        unfold nodeV at HND
        have hge : 1 + d q.2.2 ≤ M := by rw [HM.out]; exact maxD_ge d hmem
        by_cases hk2 : y.kind = 2
        · rw [hk2] at HND
          have HCH := Lib.hid (HC.out _ hmem ((kindM_of hy).trans hk2))
          obtain ⟨dd, hdd⟩ : ∃ dd, dd = d q.2.2 := ⟨_, rfl⟩
          rw [← hdd] at HCH hge
          have HDD := Lib.hid hdd
          have e1 : IntKind.i64.wrap (1 + (dd : Int)) = 1 + (dd : Int) := IntWalk.i64_in _ (by omega)
          clear hp hnd hy hk2 hmem hdd
          by_cases hgt : m < 1 + dd
          · have hg2 : decide ((m : Int) < 1 + (dd : Int)) = true := by simp; omega
            go_wp2_with fail
            (with_reducible refine HND.out.mono ?_)
            rintro e w3 ⟨rfl, hb3⟩
            have HB3 := Lib.hid (HB.out.trans (hb3.mono hs))
            have hs3 := hb3.size
            have s2' : w3.cell? ⟨r, 2, none⟩ = some (.slice (some ⟨b, off, none⟩) n cE) := (hb3.cell (p := ⟨r, 2, none⟩) hrr).trans s2
            have c2' : w3.cell? ⟨b, off + k * 3 + 2, none⟩ = some (.int .i64 q.2.2) := (hb3.cell (p := ⟨b, off + k * 3 + 2, none⟩) hb).trans c2
            have hr3 : r < w3.heap.size := by omega
            have hb3' : b < w3.heap.size := by omega
            clear hb3 s2 c2 c0
            go_wp2_with fail
            (with_reducible refine Calls.mono (HCH.out _ (HB3.out.trans ((wall w3 _).mono HB3.out.size))) ?_)
            rintro e w4 ⟨rfl, hb4⟩
            have HB4 := Lib.hid ((HB3.out.trans ((wall w3 _).mono HB3.out.size)).trans (hb4.mono (by simp; omega)))
            clear hb4
            go_wp2_with fail
            go_roundw
            case rel => exact ⟨k + 1, 1 + dd, by omega, by go_num, by go_num, HR.out.step HQ.out (by omega) (by omega) (fun _ => by rw [HDD.out]; exact Nat.le_refl _), HB4.out⟩
            case measure => simp [intOf]; omega
          · have hg2 : decide ((m : Int) < 1 + (dd : Int)) = false := by simp; omega
            go_wp2_with fail
            (with_reducible refine HND.out.mono ?_)
            rintro e w3 ⟨rfl, hb3⟩
            have HB3 := Lib.hid (HB.out.trans (hb3.mono hs))
            have hs3 := hb3.size
            have s2' : w3.cell? ⟨r, 2, none⟩ = some (.slice (some ⟨b, off, none⟩) n cE) := (hb3.cell (p := ⟨r, 2, none⟩) hrr).trans s2
            have c2' : w3.cell? ⟨b, off + k * 3 + 2, none⟩ = some (.int .i64 q.2.2) := (hb3.cell (p := ⟨b, off + k * 3 + 2, none⟩) hb).trans c2
            have hr3 : r < w3.heap.size := by omega
            have hb3' : b < w3.heap.size := by omega
            clear hb3 s2 c2 c0
            go_wp2_with fail
            (with_reducible refine Calls.mono (HCH.out _ (HB3.out.trans ((wall w3 _).mono HB3.out.size))) ?_)
            rintro e w4 ⟨rfl, hb4⟩
            have HB4 := Lib.hid ((HB3.out.trans ((wall w3 _).mono HB3.out.size)).trans (hb4.mono (by simp; omega)))
            clear hb4
            go_wp2_with fail
            go_roundw
            case rel => exact ⟨k + 1, m, by omega, by go_num, rfl, HR.out.step HQ.out (Nat.le_refl _) hmM (fun _ => by rw [← HDD.out]; omega), HB4.out⟩
            case measure => simp [intOf]; omega
        · have e2 : (y.kind == 2) = false := by simpa using hk2
          have hd1 : d q.2.2 = 0 := HD0.out _ hmem (by rw [kindM_of hy]; exact hk2)
          rw [hd1] at hge
          have HDD := Lib.hid hd1
          clear hp hnd hy hk2 hmem hd1
          by_cases hgt : m < 1
          · have hg2 : decide ((m : Int) < 1) = true := by simp; omega
            go_wp2_with fail
            (with_reducible refine HND.out.mono ?_)
            rintro e w3 ⟨rfl, hb3⟩
            have HB3 := Lib.hid (HB.out.trans (hb3.mono hs))
            clear hb3
            go_wp2_with fail
            go_roundw
            case rel => exact ⟨k + 1, 1, by omega, by go_num, rfl, HR.out.step HQ.out (by omega) (by omega) (fun _ => by rw [HDD.out]; exact Nat.le_refl _), HB3.out.trans ((wall w3 _).mono HB3.out.size)⟩
            case measure => simp [intOf]; omega
          · have hg2 : decide ((m : Int) < 1) = false := by simp; omega
            go_wp2_with fail
            (with_reducible refine HND.out.mono ?_)
            rintro e w3 ⟨rfl, hb3⟩
            have HB3 := Lib.hid (HB.out.trans (hb3.mono hs))
            clear hb3
            go_wp2_with fail
            go_roundw
            case rel => exact ⟨k + 1, m, by omega, by go_num, rfl, HR.out.step HQ.out (Nat.le_refl _) hmM (fun _ => by rw [HDD.out]; omega), HB3.out.trans ((wall w3 _).mono HB3.out.size)⟩
            case measure => simp [intOf]; omega
      · have hpp : (q.1 == id) = false := by simpa using hp
        have HP := Lib.hid hp
        clear hp
        go_wp2
        go_roundw
        case rel => exact ⟨k + 1, m, by omega, by go_num, rfl, HR.out.step HQ.out (Nat.le_refl _) hmM (fun h => absurd h HP.out), HB.out⟩
        case measure => simp [intOf]; omega
    · go_wp2
      go_ret
      refine ⟨ret_int ?_, HB.out⟩
      have : M ≤ m := by
        rw [HM.out]
        refine maxD_le d fun e he => HR.out.2 (id, e.1, e.2) ?_ rfl
        rw [List.take_of_length_le (by have := HL.out; omega)]
        exact (mem_ents HT.out.sorted).2 ⟨x, HX.out, he⟩
      omega
theorem deepM_file {T : TrM} (hT : OkM T) {id : Int} (hk : kindM T id ≠ 2) : ∀ n, deepM T n id = 0
  | 0 => rfl
  | n + 1 => by
    show maxD (deepM T n) (namesM T id) = 0
    unfold namesM kindM at *
    cases hx : aget id T with
    | none => rfl
    | some x =>
      rw [hx] at hk
      simp only at hk ⊢
      rw [(hT.each id x hx).file ((hT.each id x hx).kind.resolve_right hk)]
      rfl
/-- deep, of what is no deeper than so many. -/
theorem rdeep_any (hT : OkM T) : ∀ (n : Nat) (id : Int) (w : World), RefAt F w r T → (aget id T).isSome = true → Shal T n id → n ≤ 64 → RDeep r w id (deepM T n id)
  | 0, id, w, h, hi, hs, hn => by
    obtain ⟨x, hx⟩ := Option.isSome_iff_exists.1 hi
    have e : x.names = [] := by have h1 : namesM T id = [] := hs; unfold namesM at h1; rw [hx] at h1; exact h1
    have := rdeep_step id x (fun _ => 0) w h hT hx (fun _ _ => Nat.zero_le _) (fun _ _ _ => rfl) (fun y he => by rw [e] at he; cases he)
    rw [e] at this
    exact this
  | n + 1, id, w, h, hi, hs, hn => by
    obtain ⟨x, hx⟩ := Option.isSome_iff_exists.1 hi
    have e : namesM T id = x.names := by unfold namesM; rw [hx]
    have hs' : ∀ e ∈ x.names, Shal T n e.2 := fun y hy => hs y (by rw [e]; exact hy)
    have := rdeep_step id x (deepM T n) w h hT hx (fun y hy => Nat.le_trans (hs' y hy).le (by omega)) (fun y hy hk => deepM_file hT hk n) (fun y hy _ w1 hb =>
      rdeep_any hT n y.2 w1 (h.below hb (Nat.le_refl _)) (hT.leads id x hx y hy).1 (hs' y hy) (by omega))
    rw [← e] at this
    exact this
end
end Go.Proofs.YtbapdoicejakhaaGreat
namespace Go.Proofs.YtbapdoicejakhaaGreat
open Go.ChangeShapes Go.WideShapes Go.ChangeAt Go.RowKit
set_option linter.unusedVariables false
set_option linter.unusedSimpArgs false

theorem drewN_below {w : World} (n : Nat) : Below w.heap.size w (w.drewN n) := ⟨rfl, rfl, rfl, Nat.le_refl _, fun _ _ => rfl⟩
theorem quiet_eq {P : Program} {f : FuncId} {args : Array Value} {w : World} {v : Value} (h : Calls P f args w fun e w' => e = .returned v ∧ w = w') : Calls P f args w fun e w' => e = .returned v ∧ w' = w := h.mono fun e w' ⟨h1, h2⟩ => ⟨h1, h2.symm⟩
section
variable {F : Nat → Prop} {r : Nat} {T : TrM}
set_option maxHeartbeats 2000000 in
theorem ronto_any (d : Int) (nm : Nm) (id j : Int) (x : ItM) (w : World) (h : RefAt F w r T) (hT : OkM T) (hx : aget d T = some x) (hn : aget nm x.names = some j) :
    Calls Tryz.prog 126 #[ptr r, .int .i64 d, .string (strOf nm), .int .i64 id] w fun e w' => e = .returned (.int .i64 (if j = id then 0 else 21)) ∧ Below w.heap.size w w' := by
  have hE : (entsM T).length ≤ 1000000 := by have := ents_few hT; omega
  have H5 := Lib.hid (fun m => rentry_any d nm (w.drewN m) (h.below (drewN_below m) (Nat.le_refl _)) hE)
  obtain ⟨k, hk, he⟩ := ent_some hT.toOkP hx hn
  rw [hk] at H5
  have hr0 := h.low r h.own
  obtain ⟨aE, cE, s2, -, hrow, -⟩ := h.ent
  obtain ⟨b, off, rfl, hF, hb, hi, hcc⟩ := hrow.wide entC_len rfl he (by omega)
  have c2 : w.cell? ⟨b, off + k * 3 + 2, none⟩ = some (.int .i64 j) := hcc 2 (by omega)
  have i0 : (0 : Int) ≤ k := by omega
  have i1 : (k : Int) < (entsM T).length := by omega
  generalize (entsM T).length = n at *
  clear h hT hx hn hk he hrow hcc hE
  by_cases hj : j = id
  · have e1 : (j == id) = true := by simpa using hj
    rw [if_pos hj]
    clear hj
    go_enter Tryz.func126, Tryz.ntmps126
    go_wp2_with fail
    go_quiet ((go_at_call 63; exact Calls.quiet_of_same (quiet_eq (H5.out _))))
    go_wp2_with fail
    go_ret
    exact ⟨rfl, drewN_below _⟩
  · have e1 : (j == id) = false := by simpa using hj
    rw [if_neg hj]
    clear hj
    go_enter Tryz.func126, Tryz.ntmps126
    go_wp2_with fail
    go_quiet ((go_at_call 63; exact Calls.quiet_of_same (quiet_eq (H5.out _))))
    go_wp2_with fail
    go_ret
    exact ⟨rfl, drewN_below _⟩
end
end Go.Proofs.YtbapdoicejakhaaGreat
