/- tree: look, place. -/
import Derived.Test.YtcmlfaolooglfaaTreeF
namespace Go.Proofs.Ytcmlfaolooglfaa
open Go.ChangeShapes Go.WideShapes Go.ChangeAt Go.RowKit
set_option linter.unusedVariables false
set_option linter.unusedSimpArgs false

theorem Try.zeroItem (w : World) : (zeroValue 49).run Try.prog w = .ok (.pointer none) w := by kernel_rfl
theorem Try.zeroInt (w : World) : (zeroValue 3).run Try.prog w = .ok (.int .i64 0) w := by kernel_rfl
theorem okInt {k : Int} (h1 : 0 ≤ k) (h2 : k ≤ 1000000) : intK.ok k := by
  simp [intK, Lit.wf, IntKind.min, IntKind.max, IntKind.signed, IntKind.bits]; omega
theorem ret2_int {a b : Int} {c d : Int} (h : (a, c) = (b, d)) : Ending.returned (.tuple #[.int .i64 a, .int .i64 c]) = .returned (.tuple #[.int .i64 b, .int .i64 d]) := by
  cases h; rfl
theorem lookM_step {T : TrM} {id : Int} {x : ItM} {ls : List Nm} {k : Nat} {n : Nm} {j : Int} (hx : aget id T = some x) (hk2 : x.kind = 2) (hn : ls[k]? = some n) (hj : aget n x.names = some j) : lookM T id (ls.drop k) = lookM T j (ls.drop (k + 1)) := by
  obtain ⟨hk, e⟩ := List.getElem?_eq_some_iff.1 hn
  rw [List.drop_eq_getElem_cons hk, e, lookM, hx]
  simp only [hk2, if_pos, hj]
theorem lookM_file {T : TrM} {id : Int} {x : ItM} {ls : List Nm} {k : Nat} {n : Nm} (hx : aget id T = some x) (hk2 : x.kind ≠ 2) (hn : ls[k]? = some n) : lookM T id (ls.drop k) = (0, 23) := by
  obtain ⟨hk, e⟩ := List.getElem?_eq_some_iff.1 hn
  rw [List.drop_eq_getElem_cons hk, e, lookM, hx]
  simp only [if_neg hk2]
theorem lookM_none {T : TrM} {id : Int} {x : ItM} {ls : List Nm} {k : Nat} {n : Nm} (hx : aget id T = some x) (hk2 : x.kind = 2) (hn : ls[k]? = some n) (hj : aget n x.names = none) : lookM T id (ls.drop k) = (0, 20) := by
  obtain ⟨hk, e⟩ := List.getElem?_eq_some_iff.1 hn
  rw [List.drop_eq_getElem_cons hk, e, lookM, hx]
  simp only [hk2, if_pos, hj]

set_option maxHeartbeats 4000000 in
theorem look_any {S : Nat → Prop} {g : Nat → Own} {D : Nat → Prop} {p mb : Nat} {ib nb : Int → Nat} {T : TrM} (a : Option Addr) (n c : Nat) (ls : List Nm) (w : World) (h : TreeAt g D w p mb ib nb T) (hT : OkM T) (hS : StrsAt S w a n (ls.map strOf)) :
    Calls Try.prog 31 #[ptr p, .slice a n c] w fun e w' => e = .returned (.tuple #[.int .i64 (lookM T 0 ls).1, .int .i64 (lookM T 0 ls).2]) ∧ w = w' := by
  have hln : ls.length = n := by have := hS.length; simpa using this
  have hnm := hS.row.small
  unfold maxLen at hnm
  obtain ⟨hc0, hpw, hmw⟩ := h.cell
  have HH := Lib.hid h
  have HT := Lib.hid hT
  have HS := Lib.hid hS
  have HL := Lib.hid hln
  clear h hT hS hln
  go_enter Try.func31, Try.ntmps31
  go_wp2
  go_loop [6, 14] (fun s i => ∃ (k : Nat) (id : Int), k ≤ n ∧ i = .int .i64 k ∧ s = .int .i64 id ∧ (aget id T).isSome = true ∧ lookM T id (ls.drop k) = lookM T 0 ls) (fun _ i => n - (intOf i).toNat)
  case atStart => exact ⟨0, 0, by omega, rfl, rfl, root_there HT.out, by simp⟩
  case round =>
    obtain ⟨k, id, hk, rfl, rfl, hid, hlk⟩ := hrel
    obtain ⟨x, hx⟩ := Option.isSome_iff_exists.1 hid
    have HLK := Lib.hid hlk
    have HX := Lib.hid hx
    clear hlk hid hx
    have hids := HT.out.ids id x HX.out
    have hok : intK.ok id := okInt hids.1 (by omega)
    obtain ⟨c0, c1, c2, c3, c4, c5, c7, hiw⟩ := (HH.out.item id x HX.out).cell
    have hget : aget id (T.map fun q => (q.1, ptr (ib q.1))) = some (ptr (ib id)) := by rw [aget_ptr, HX.out]; rfl
    have HG := Lib.hid hget
    clear hget
    have hmap := Lib.hid HH.out.map
    by_cases hlt : k < n
    · obtain ⟨b, off, s, rfl, _, hbw, hs, hsz, hcell⟩ := HS.out.cell k hlt
      obtain ⟨nm, hnm', rfl⟩ : ∃ nm, ls[k]? = some nm ∧ strOf nm = s := by
        rw [List.getElem?_map] at hs
        cases hq : ls[k]? with
        | none => rw [hq] at hs; cases hs
        | some nm => rw [hq] at hs; exact ⟨nm, rfl, by simpa using hs⟩
      have HN := Lib.hid hnm'
      have hokn : strK.ok nm := by show nm.length ≤ maxLen; rw [← strOf_size]; exact hsz
      clear hs hnm'
      by_cases hk2 : x.kind = 2
      · have e2 : namesV x (nb id) = .map (some (nb id)) := if_pos hk2
        rw [e2] at c7
        rw [hk2] at c1
        have hnames := Lib.hid ((HH.out.item id x HX.out).names hk2)
        cases hj : aget nm x.names with
        | none =>
          have hgn : aget nm (nameL x) = none := by rw [aget_nameL, hj]; rfl
          have HGN := Lib.hid hgn
          have hfin := Lib.hid (lookM_none HX.out hk2 HN.out hj)
          clear hgn hj e2 hk2
          go_wp2_with (first | (at_lookup; refine wpList_look intK rfl _ _ 51 49 rfl Try.underlying51 (Try.zeroItem _) rfl hmap.out id rfl hok ?_; rw [HG.out]) | (at_lookup; refine wpList_look_ok strK rfl _ _ 59 3 rfl Try.underlying59 (Try.zeroInt _) rfl hnames.out nm rfl hokn ?_; rw [HGN.out]))
          go_ret2
          exact ⟨ret2_int (by rw [← HLK.out, hfin.out]), rfl⟩
        | some j =>
          have hgn : aget nm (nameL x) = some (.int .i64 j) := by rw [aget_nameL, hj]; rfl
          have HGN := Lib.hid hgn
          have hfin := Lib.hid (lookM_step HX.out hk2 HN.out hj)
          have HJ := Lib.hid ((HT.out.leads id x HX.out _ (aget_mem hj)).1)
          clear hgn hj e2 hk2
          go_wp2_with (first | (at_lookup; refine wpList_look intK rfl _ _ 51 49 rfl Try.underlying51 (Try.zeroItem _) rfl hmap.out id rfl hok ?_; rw [HG.out]) | (at_lookup; refine wpList_look_ok strK rfl _ _ 59 3 rfl Try.underlying59 (Try.zeroInt _) rfl hnames.out nm rfl hokn ?_; rw [HGN.out]))
          go_round
          case rel => exact ⟨k + 1, j, by omega, by go_num, rfl, HJ.out, by rw [← hfin.out]; exact HLK.out⟩
          case measure => simp [intOf]; omega
      · have e1 : (x.kind == 2) = false := by simpa using hk2
        have hfin := Lib.hid (lookM_file HX.out hk2 HN.out)
        clear hk2 c7
        go_wp2_with (first | (at_lookup; refine wpList_look intK rfl _ _ 51 49 rfl Try.underlying51 (Try.zeroItem _) rfl hmap.out id rfl hok ?_; rw [HG.out]))
        go_ret2
        exact ⟨ret2_int (by rw [← HLK.out, hfin.out]), rfl⟩
    · clear c7
      go_wp2
      go_ret2
      exact ⟨ret2_int (by rw [← HLK.out, List.drop_of_length_le (by have := HL.out; omega)]; rfl), rfl⟩
end Go.Proofs.Ytcmlfaolooglfaa
