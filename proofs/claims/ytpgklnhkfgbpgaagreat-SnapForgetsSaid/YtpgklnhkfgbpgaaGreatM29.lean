/- DERIVED: THE SHELF's CONTRACTS AT THIS DUMP, IN PLAIN WORDS (tools/lay-plain.mjs out of 'YtpgklnhkfgbpgaaGreatLaypOneLay.lean', which tools/lay-shelf.mjs wrote): THE SAME DECLARATIONS UNDER THE SAME NAMES: 'import', 'namespace', 'open', 'def', 'theorem' AND NOTHING ELSE: no command of the shelf's: FOR A HAND-IN. Each laying: the table of numbers ('.._ren') and one theorem, a field a fact of the dump's own or the kernel's comparison; each contract: ONE APPLICATION. slices.Concat of rows of snapshots. The contracts of package clock, and known of permafrostlaw8: what each call returns; the world stays as it was. The contracts of package worm's rules for one node: what each call returns; what was there stays as it was. worm.Live, worm.Bound of a tree. package snap: All. -/
import Derived.Test.YtpgklnhkfgbpgaaGreatProg
import Derived.Shelf.Spec.SlicesGrow
import Derived.Test.YtpgklnhkfgbpgaaGreatM24
import Derived.Test.YtpgklnhkfgbpgaaGreatM20
import Derived.Test.YtpgklnhkfgbpgaaGreatM01
import Derived.Test.YtpgklnhkfgbpgaaGreatM15
import Derived.Test.YtpgklnhkfgbpgaaGreatM12
namespace Go.Proofs
open Go.Shelf
def Tryz.growO_ren : Go.Shelf.Ren := ⟨fun | 4 => 58 | n => n, fun | 22 => 63 | 25 => 62 | 3 => 3 | 4 => 4 | 9 => 9 | 20 => 20 | 0 => 0 | n => n, fun | n => n⟩
theorem Tryz.growO : Go.Proofs.Lays8.n4 Tryz.prog Tryz.growO_ren := {
  mixed := by kernel_rfl
  f4 := ⟨Tryz.f58.name, by decide, Tryz.func58.trans (congrArg some (by kernel_rfl))⟩
  t0 := Tryz.underlying0
  a0 := Tryz.isAgg0
  z0 := Tryz.sizeOf0
  v0 := Tryz.zeroValue0
  t3 := Tryz.underlying3
  a3 := Tryz.isAgg3
  z3 := Tryz.sizeOf3
  v3 := Tryz.zeroValue3
  t4 := Tryz.underlying4
  a4 := Tryz.isAgg4
  z4 := Tryz.sizeOf4
  v4 := Tryz.zeroValue4
  t9 := Tryz.underlying9
  a9 := Tryz.isAgg9
  z9 := Tryz.sizeOf9
  v9 := Tryz.zeroValue9
  t20 := Tryz.underlying20
  a20 := Tryz.isAgg20
  z20 := Tryz.sizeOf20
  v20 := Tryz.zeroValue20
  t22 := Tryz.underlying63
  a22 := Tryz.isAgg63
  z22 := Tryz.sizeOf63
  v22 := Tryz.zeroValue63 }
end Go.Proofs
namespace Go.Proofs.YtpgklnhkfgbpgaaGreat
open Go.ChangeShapes Go.WideShapes Go.ChangeAt Go.RowKit
set_option linter.unusedVariables false
set_option linter.unusedSimpArgs false

theorem infoOne : (Tryz.prog.info? 62).map (fun i => (i.zero, i.size, i.bytes)) = some (some (.agg #[.int .i64 0, .slice none 0 0, .pointer none]), 3, 40) := by kernel_rfl
theorem growO_nil (n : Nat) (w : World) (hn : n ≤ 1000000) :
    Calls Tryz.prog 58 #[.slice none 0 0, .int .i64 n] w fun e w' => ∃ v, e = .returned v ∧ w'.ownsRow w.heap.size 62 3 v 0 [] ∧ Below w.heap.size w w' := by
  obtain ⟨i0, hi, hz0, hz1, hz2⟩ := info_parts infoOne
  by_cases h0 : n = 0
  · subst h0
    refine (Any8.slices_Grow_room Tryz.growO none 0 0 0 w (by omega) (by omega) (by omega) (by omega)).mono ?_
    rintro e w' ⟨rfl, rfl⟩
    exact ⟨_, rfl, ⟨rfl, .inl ⟨rfl, rfl⟩⟩, Below.refl _ _⟩
  · refine (Any8.slices_Grow_grow Tryz.growO i0 (.agg #[.int .i64 0, .slice none 0 0, .pointer none]) hi hz0 (by rw [hz1]; omega) none 0 0 n [] w (by omega) (by omega) (by rw [hz2]; omega) (by omega) (by simp) (fun _ => rfl) (fun a h => by cases h)).mono ?_
    rintro e w' ⟨rfl, rfl⟩
    have h1 := grownCap_ge w (0 + n) 0 (Tryz.growO_ren.t 25)
    have h2 := grownCap_le_maxLen w (0 + n) 0 (Tryz.growO_ren.t 25) (by unfold maxLen; omega)
    refine ⟨_, rfl, ⟨rfl, .inr ⟨w.heap.size, _, _, rfl, Nat.le_refl _, (MapKept.heap_alloc w.drew _).1, Nat.zero_le _, h2, ?_, rfl⟩⟩, ((Below.refl _ _).drew).alloc (Nat.le_refl _) _⟩
    have e1 : (Value.cells (.agg #[.int .i64 0, .slice none 0 0, .pointer none])).size = 3 := rfl
    simp only [Array.size_append, size_zeroCells, List.size_toArray, List.length_nil, e1]
    omega
theorem flatV_take (pss : List (List Value)) (k : Nat) (bs : List Value) (h : pss[k]? = some bs) : (pss.take (k + 1)).flatten = (pss.take k).flatten ++ bs := by
  obtain ⟨hk, e⟩ := List.getElem?_eq_some_iff.1 h
  rw [List.take_succ_eq_append_getElem hk, List.flatten_append, e]
  simp
theorem flatV_le (pss : List (List Value)) (k : Nat) : (pss.take k).flatten.length ≤ pss.flatten.length := by
  conv => rhs; rw [← List.take_append_drop k pss, List.flatten_append]
  simp
def flatTo3 (pss : List (List Value)) (k : Nat) : List Value := (pss.take k).flatten
def flatN3 (pss : List (List Value)) (k : Nat) : Nat := (flatTo3 pss k).length / 3
theorem flatN3_zero (pss : List (List Value)) : flatN3 pss 0 = 0 := by simp [flatN3, flatTo3]
set_option maxRecDepth 100000 in
set_option maxHeartbeats 4000000 in
theorem concatO_any {S : Nat → Prop} (B n N : Nat) (pss : List (List Value)) (w : World) (hn : n = pss.length) (hn2 : n ≤ 1000) (hB : B < w.heap.size) (hN : pss.flatten.length = N * 3) (htot : N ≤ 100000)
    (hc : ∀ k, k < n → ∃ a l c bs, w.cell? ⟨B, k, none⟩ = some (.slice a l c) ∧ RowAt S w a (l * 3) bs ∧ pss[k]? = some bs ∧ ∀ u ∈ bs, u.oneCell' = true) :
    Calls Tryz.prog 25 #[.slice (some ⟨B, 0, none⟩) n n] w fun e w' => ∃ v, e = .returned v ∧ w'.ownsRow w.heap.size 62 3 v N pss.flatten ∧ Below w.heap.size w w' := by
  obtain ⟨i0, hi, hz0, hz1, hz2⟩ := info_parts infoOne
  have HN := Lib.hid hn
  have HC := Lib.hid hc
  have hle : ∀ k, flatN3 pss k ≤ N := fun k => by have := flatV_le pss k; unfold flatN3 flatTo3; omega
  obtain ⟨fl, hfl0⟩ : ∃ fl, fl = pss.flatten := ⟨_, rfl⟩
  have HNN := Lib.hid hN
  rw [← hfl0]
  have HFF := Lib.hid hfl0
  clear hN hfl0
  have HLE := Lib.hid hle
  have hG := growO_nil N w (by omega)
  have HG := Lib.hid hG
  clear hn hc hle hG
  go_enter Tryz.func25, Tryz.ntmps25
  go_wp2
  go_loop [3, 11] (fun s i => ∃ k : Nat, k ≤ n ∧ i = .int .i64 k ∧ s = .int .i64 (flatN3 pss k)) (fun _ i => n - (intOf i).toNat)
  case atStart => exact ⟨0, by omega, rfl, by rw [flatN3_zero]; rfl⟩
  case round =>
    obtain ⟨k, hk, rfl, rfl⟩ := hrel
    have hlk := HLE.out k
    by_cases hlt : k < n
    · obtain ⟨a, l, c, bs, hcell, hS, hp, h1⟩ := HC.out k hlt
      have hll : bs.length = l * 3 := hS.length
      have HFL : Hid (flatN3 pss (k + 1) = flatN3 pss k + l) := by
        have : flatN3 pss (k + 1) = flatN3 pss k + l := by
          unfold flatN3 flatTo3
          rw [flatV_take pss k bs hp, List.length_append, hll]
          omega
        exact Lib.hid this
      have hlk2 : flatN3 pss k + l ≤ 100000 := by have := HFL.out; have := HLE.out (k + 1); omega
      clear hp hS h1
      go_wp2
      go_round
      case rel => exact ⟨k + 1, by omega, by go_num, by rw [HFL.out]; go_num⟩
      case measure => simp [intOf]; omega
    · obtain rfl : n = k := by omega
      have HT : Hid (flatTo3 pss n = fl ∧ flatN3 pss n = N) := by
        have : pss.take n = pss := List.take_of_length_le (by have := HN.out; omega)
        unfold flatN3 flatTo3
        rw [this]; exact ⟨HFF.out.symm, by rw [HNN.out]; omega⟩
      rw [HT.out.2]
      go_wp2_with fail
      (with_reducible refine HG.out.mono ?_)
      rintro e w1 ⟨v, rfl, hown, hb1⟩
      have HB1 := Lib.hid hb1
      have hown0 : w1.ownsRow w.heap.size 62 3 v (flatN3 pss 0) (flatTo3 pss 0) := by rw [flatN3_zero]; exact hown
      have HO := Lib.hid hown0
      clear hb1 hown hown0 HG
      go_wp2_with fail
      go_loopw [6, 27] (fun v i wr => ∃ k : Nat, k ≤ n ∧ i = .int .i64 k ∧ wr.ownsRow w.heap.size 62 3 v (flatN3 pss k) (flatTo3 pss k) ∧ Below w.heap.size w wr) (fun _ i _ => n - (intOf i).toNat)
      case atStart => exact ⟨0, by omega, rfl, HO.out, HB1.out⟩
      case round =>
        obtain ⟨k, hk, rfl, hown, hb⟩ := hrel
        have hbs := hb.size
        by_cases hlt : k < n
        · obtain ⟨a, l, c, bs, hcell0, hS, hp, h1⟩ := HC.out k hlt
          have hcell := (hb.cell (p := ⟨B, k, none⟩) hB).trans hcell0
          have hll : bs.length = l * 3 := hS.length
          have HFL : Hid (flatTo3 pss (k + 1) = flatTo3 pss k ++ bs ∧ flatN3 pss (k + 1) = flatN3 pss k + l) := by
            have e1 : flatTo3 pss (k + 1) = flatTo3 pss k ++ bs := by unfold flatTo3; exact flatV_take pss k bs hp
            exact Lib.hid ⟨e1, by unfold flatN3; rw [e1, List.length_append, hll]; omega⟩
          have hlk2 : flatN3 pss k + l ≤ 100000 := by have := HFL.out.2; have := HLE.out (k + 1); omega
          have HS := Lib.hid (hS.below hb (Nat.le_refl _))
          have HOW := Lib.hid hown
          have HB := Lib.hid hb
          have H1 := Lib.hid h1
          clear hp hS hown hb hcell0 hlk hll h1
          go_wp2_with (at_builtin; refine wpList_append_rowb (by rfl) _ _ 63 (by rfl) w.heap.size 62 i0 _ 3 40 Tryz.underlying63 hi hz0 hz1 hz2 rfl (by omega) _ _ _ (by rfl) HOW.out a l c bs (by rfl) HS.out H1.out (by unfold maxLen; omega) (by omega) hbs ?_; intro A' c' w2 hown2 hb2)
          have HO2 := Lib.hid hown2
          have HB2 := Lib.hid hb2
          clear hown2 hb2
          go_roundw
          case rel =>
            refine ⟨k + 1, by omega, by go_num, ?_, HB.out.trans HB2.out⟩
            rw [HFL.out.1, HFL.out.2]
            exact HO2.out
          case measure => simp [intOf]; omega
        · obtain rfl : n = k := by omega
          rw [HT.out.1, HT.out.2] at hown
          obtain ⟨a, c, rfl, hac⟩ := own_form2 hown
          have HOW := Lib.hid hown
          have HB := Lib.hid hb
          clear hown hb
          go_wp2
          go_ret
          exact ⟨_, rfl, HOW.out, HB.out⟩
end Go.Proofs.YtpgklnhkfgbpgaaGreat
namespace Go.Proofs.YtpgklnhkfgbpgaaGreat
open Go.ChangeShapes Go.WideShapes Go.ChangeAt Go.RowKit

def dueB (a b : Int) : Bool := decide (b ≤ a)
def lngB (a b : Int) : Bool := decide (b ≤ 1099511627776) && decide (a ≤ b)
def nextOf (now tick : Int) : Int := if tick ≤ 1099511627776 then max now tick else now

theorem due_any (a b : Int) (w : World) :
    Calls Tryz.prog 93 #[.int .u64 a, .int .u64 b] w fun e w' => e = .returned (.bool (dueB a b)) ∧ w = w' := by
  go_enter Tryz.func93, Tryz.ntmps93
  go_wp2
  go_ret
  exact ⟨rfl, rfl⟩




end Go.Proofs.YtpgklnhkfgbpgaaGreat
namespace Go.Proofs.YtpgklnhkfgbpgaaGreat
open Go.ChangeShapes Go.WideShapes Go.ChangeAt Go.RowKit
set_option linter.unusedVariables false

def kindOf (k : Int) : Int := if k = 1 then 0 else if k = 2 then 22 else 30
def writeOf (k : Int) (c : Bool) : Int := if k = 1 ∧ c = true then 27 else kindOf k
def removeOf (k l u : Int) (c : Bool) (now : Int) : Int := if k = 1 ∧ c = true ∧ l ≤ 1 ∧ now < u then 28 else kindOf k
def keepOf (k u : Int) (c : Bool) (till : Int) : Int :=
  if k = 1 then (if c = false then 25 else if till < u then 28 else if 1099511627776 < till then 1 else 0) else kindOf k

theorem kindOf_one : kindOf 1 = 0 := rfl
theorem kindOf_ne (k : Int) (h : k ≠ 1) : (kindOf k == 0) = false ∧ (kindOf k != 0) = true := by
  unfold kindOf; rw [if_neg h]; split <;> decide

end Go.Proofs.YtpgklnhkfgbpgaaGreat
namespace Go.Proofs.YtpgklnhkfgbpgaaGreat
open Go.ChangeShapes Go.WideShapes Go.ChangeAt Go.RowKit
set_option linter.unusedVariables false
set_option linter.unusedSimpArgs false

theorem infoInt : (Tryz.prog.info? 3).map (fun i => (i.zero, i.size, i.bytes)) = some (some (.int .i64 0), 1, 8) := by kernel_rfl
def livesB (x : ItM) (now : Int) : Bool := decide (x.kind = 1) && x.closed && decide (now < x.til)
def liveM (T : TrM) (now : Int) : List Int := (T.filter fun q => livesB q.2 now).map (·.1)
theorem liveM_take {T : TrM} {now : Int} {k : Nat} {q : Int × ItM} (h : T[k]? = some q) : liveM (T.take (k + 1)) now = liveM (T.take k) now ++ if livesB q.2 now then [q.1] else [] := by
  obtain ⟨hk, e⟩ := List.getElem?_eq_some_iff.1 h
  unfold liveM
  rw [List.take_succ_eq_append_getElem hk, e, List.filter_append, List.map_append]
  congr 1
  by_cases hl : livesB q.2 now <;> simp [hl]
theorem liveM_len (T : TrM) (now : Int) (k : Nat) : (liveM (T.take k) now).length ≤ k := by
  unfold liveM
  rw [List.length_map]
  refine Nat.le_trans (List.length_filter_le _ _) ?_
  rw [List.length_take]; omega
theorem one_ints (zs : List Int) : ∀ u ∈ zs.map (Value.int .i64), u.oneCell' = true := by
  intro u hu; obtain ⟨x, _, rfl⟩ := List.mem_map.1 hu; rfl
theorem own_keeps {w w' : World} {base : Nat} {e : TypeId} {size : Nat} {v : Value} {n : Nat} {xs : List Value} {fp : Nat → Prop} (h : w.ownsRow base e size v n xs) (hK : Keeps fp w w') (hn : ∀ b, v.ownBlock = some b → ¬ fp b) : w'.ownsRow base e size v n xs := by
  refine ⟨h.1, ?_⟩
  rcases h.2 with h0 | ⟨g, cap, cur, rfl, hb, hg, r⟩
  · exact .inl h0
  · exact .inr ⟨g, cap, cur, rfl, hb, (hK.block g (Array.getElem?_eq_some_iff.1 hg).1 (hn g rfl)).trans hg, r⟩
theorem own_low {w : World} {base : Nat} {e : TypeId} {size : Nat} {v : Value} {n : Nat} {xs : List Value} (h : w.ownsRow base e size v n xs) : ∀ b, v.ownBlock = some b → b < w.heap.size := by
  intro b hb
  rcases h.2 with ⟨rfl, _⟩ | ⟨g, cap, cur, rfl, _, hg, _⟩
  · cases hb
  · cases hb; exact (Array.getElem?_eq_some_iff.1 hg).1
theorem own_below {w w' : World} {base : Nat} {e : TypeId} {size : Nat} {v : Value} {n : Nat} {xs : List Value} (h : w.ownsRow base e size v n xs) (hb : Below w.heap.size w w') : w'.ownsRow base e size v n xs :=
  own_keeps h (Keeps.below hb) fun b hv hf => by have := own_low h b hv; omega
section
variable {g : Nat → Own} {D : Nat → Prop} {p mb : Nat} {ib nb : Int → Nat} {T : TrM}
set_option maxRecDepth 100000 in
set_option maxHeartbeats 8000000 in
theorem live_any (now : Int) (w : World) (h : TreeAt g D w p mb ib nb T) (hT : OkM T) : Calls Tryz.prog 57 #[ptr p, .int .u64 now] w (NewInts w (liveM T now)) := by
  obtain ⟨ti, hi, hz0, hz1, hz2⟩ := info_parts infoInt
  have hlen := hT.len
  have HH := Lib.hid h
  have HT := Lib.hid hT
  have HIDS := Lib.hid (ids_any w h (by omega))
  clear h hT
  go_enter Tryz.func57, Tryz.ntmps57
  go_wp2_with fail
  (with_reducible refine HIDS.out.mono ?_)
  rintro e w1 ⟨a, cap, rfl, hcap, hr, hB⟩
  have hil : (idsM T).length = T.length := by unfold idsM; rw [List.length_map]
  obtain ⟨n, hn⟩ : ∃ n, n = (idsM T).length := ⟨_, rfl⟩
  rw [← hn] at hcap hr ⊢
  have hn64 : n ≤ 64 := by omega
  have HNL : Hid (n = T.length) := by have : n = T.length := by omega
                                      exact this
  have HR := Lib.hid hr
  have HB := Lib.hid hB
  have hs1 := hB.size
  clear hn hr hB hil HIDS
  go_wp2_with fail
  go_loopw [5, 16] (fun v i wr => ∃ k : Nat, k ≤ n ∧ i = .int .i64 k ∧ wr.ownsRow w1.heap.size 3 1 v (liveM (T.take k) now).length ((liveM (T.take k) now).map (Value.int .i64)) ∧ Below w1.heap.size w1 wr) (fun _ i _ => n - (intOf i).toNat)
  case atStart => exact ⟨0, by omega, rfl, ⟨rfl, .inl ⟨rfl, rfl⟩⟩, Below.refl _ _⟩
  case round =>
    obtain ⟨k, hk, rfl, hO, hb⟩ := hrel
    have hbs := hb.size
    by_cases hlt : k < n
    · obtain ⟨q, hq⟩ : ∃ q, T[k]? = some q := ⟨_, List.getElem?_eq_getElem (by have := HNL.out; omega)⟩
      obtain ⟨j, x⟩ := q
      obtain ⟨bb, off, rfl, _, hbw, hcells⟩ := HR.out.at_ (by omega)
      have hc0 : w1.cell? ⟨bb, off + k, none⟩ = some (.int .i64 j) := by
        rw [hcells k hlt, List.getElem?_map]
        unfold idsM
        rw [List.getElem?_map, hq]
        rfl
      have hc1 : wr.cell? ⟨bb, off + k, none⟩ = some (.int .i64 j) := (hb.cell (p := ⟨bb, off + k, none⟩) hbw).trans hc0
      have hx : aget j T = some x := aget_of_mem iltLaws HT.out.sorted (List.mem_of_getElem? hq)
      have hids := HT.out.ids j x hx
      have hBr := HB.out.trans (hb.mono hs1)
      have hnode := node_any j wr (HH.out.below hBr (Nat.le_refl _)) (okInt hids.1 (by omega))
      have hnm : nodeM T j = .agg #[.int .i64 j, .int .i64 x.kind, .int .i64 x.links, .int .i64 x.b.length, .int .u64 x.til, .bool x.closed] := by unfold nodeM; rw [hx]; rfl
      rw [hnm, hx] at hnode
      have HN := Lib.hid hnode
      have HTK := Lib.hid (liveM_take (now := now) hq)
      have HLE := Lib.hid (liveM_len T now k)
      have HO := Lib.hid hO
      have HBL := Lib.hid hb
      clear hnode hnm hx hcells hc0 hO hb hids hq
      obtain ⟨a5, c5, rfl, hac5⟩ := own_form HO.out
      by_cases hl : livesB x now = true
      · have HL := Lib.hid hl
        simp only [livesB, Bool.and_eq_true, decide_eq_true_eq] at hl
        obtain ⟨⟨hk1, hcl⟩, htl⟩ := hl
        have hdue : dueB now x.til = false := by unfold dueB; simp; omega
        have HD := Lib.hid hdue
        rw [hcl, hk1] at HN
        clear hk1 hcl htl hdue
        go_wp2_with fail
        (with_reducible refine HN.out.mono ?_)
        rintro e w3 ⟨rfl, hb3⟩
        have hs3 := hb3.size
        have hb4 : Below wr.heap.size wr (w3.alloc (.cells #[.int .i64 j, .int .i64 1, .int .i64 x.links, .int .i64 x.b.length, .int .u64 x.til, .bool true] 75)) := hb3.trans ((wall _ _).mono hs3)
        have hb5 : Below wr.heap.size wr ((w3.alloc (.cells #[.int .i64 j, .int .i64 1, .int .i64 x.links, .int .i64 x.b.length, .int .u64 x.til, .bool true] 75)).alloc (.cells #[.int .i64 j] 3)) := hb4.trans ((wall _ _).mono hb4.size)
        have HO5 := Lib.hid (own_below HO.out hb5)
        have HROW := Lib.hid (one_row (w := w3.alloc (.cells #[.int .i64 j, .int .i64 1, .int .i64 x.links, .int .i64 x.b.length, .int .u64 x.til, .bool true] 75)) (.int .i64 j) 3)
        rw [World.size_alloc] at HROW
        have HB5 := Lib.hid hb5
        have hz5 := hb5.size
        have hle := HLE.out
        clear hb3 hb4 hb5
        go_wp2_with (first | (go_at_call 93; refine (due_any _ _ _).mono ?_; rintro e w4 ⟨rfl, rfl⟩; rw [HD.out]) | (at_builtin; refine wpList_append_row (by rfl) _ _ 37 (by rfl) w1.heap.size 3 ti (.int .i64 0) 8 Tryz.underlying37 hi hz0 hz1 hz2 rfl _ _ _ (by rfl) HO5.out (some ⟨w3.heap.size + 1, 0, none⟩) 1 1 [.int .i64 j] (by rfl) HROW.out (one_ints [j]) (by unfold maxLen; omega) (by omega) (by omega) ?_; intro A' c' w6 hown6 hgrow6 _ _))
        have HO6 := Lib.hid hown6
        have HG6 := Lib.hid hgrow6
        clear hown6 hgrow6
        go_roundw
        case rel =>
          refine ⟨k + 1, by omega, by go_num, ?_, ?_⟩
          · rw [HTK.out, HL.out, if_pos rfl, List.map_append, List.length_append]
            exact HO6.out
          · exact (HBL.out.trans (HB5.out.mono hbs)).grown HG6.out (by omega) (own_block_ge HO5.out)
        case measure => simp [intOf]; omega
      · have HL := Lib.hid hl
        have hrel0 : liveM (T.take (k + 1)) now = liveM (T.take k) now := by rw [HTK.out, if_neg hl, List.append_nil]
        have HR0 := Lib.hid hrel0
        have hfin : ∀ w3, Below wr.heap.size wr w3 → w3.ownsRow w1.heap.size 3 1 (.slice a5 (liveM (T.take k) now).length c5) (liveM (T.take (k + 1)) now).length ((liveM (T.take (k + 1)) now).map (Value.int .i64)) ∧ Below w1.heap.size w1 w3 := fun w3 hb => by
          rw [HR0.out]
          exact ⟨own_below HO.out hb, HBL.out.trans (hb.mono hbs)⟩
        have HFIN := Lib.hid hfin
        clear hrel0 hfin
        by_cases hk1 : x.kind = 1
        · cases hcl : x.closed with
          | true =>
            have hdue : dueB now x.til = true := by
              by_cases htl : now < x.til
              · exact absurd (by simp [livesB, hk1, hcl, htl]) hl
              · unfold dueB; simp; omega
            have HD := Lib.hid hdue
            rw [hcl, hk1] at HN
            clear hk1 hcl hdue hl
            go_wp2_with fail
            (with_reducible refine HN.out.mono ?_)
            rintro e w3 ⟨rfl, hb3⟩
            have HB3 := Lib.hid hb3
            clear hb3
            go_wp2_with (go_at_call 93; refine (due_any _ _ _).mono ?_; rintro e w4 ⟨rfl, rfl⟩; rw [HD.out])
            go_roundw
            case rel =>
              obtain ⟨e1, e2⟩ := HFIN.out _ (HB3.out.trans ((wall _ _).mono HB3.out.size))
              exact ⟨k + 1, by omega, by go_num, e1, e2⟩
            case measure => simp [intOf]; omega
          | false =>
            rw [hcl, hk1] at HN
            clear hk1 hcl hl
            go_wp2_with fail
            (with_reducible refine HN.out.mono ?_)
            rintro e w3 ⟨rfl, hb3⟩
            have HB3 := Lib.hid hb3
            clear hb3
            go_wp2_with fail
            go_roundw
            case rel =>
              obtain ⟨e1, e2⟩ := HFIN.out _ (HB3.out.trans ((wall _ _).mono HB3.out.size))
              exact ⟨k + 1, by omega, by go_num, e1, e2⟩
            case measure => simp [intOf]; omega
        · have e1 : (x.kind == 1) = false := by simpa using hk1
          clear hk1 hl
          go_wp2_with fail
          (with_reducible refine HN.out.mono ?_)
          rintro e w3 ⟨rfl, hb3⟩
          have HB3 := Lib.hid hb3
          clear hb3
          go_wp2_with fail
          go_roundw
          case rel =>
            obtain ⟨e1, e2⟩ := HFIN.out _ (HB3.out.trans ((wall _ _).mono HB3.out.size))
            exact ⟨k + 1, by omega, by go_num, e1, e2⟩
          case measure => simp [intOf]; omega
    · obtain rfl : n = k := by omega
      rw [List.take_of_length_le (by rw [HNL.out]; exact Nat.le_refl _)] at hO
      obtain ⟨a2, c2, rfl, hac⟩ := own_form hO
      have HO := Lib.hid hO
      have HBL := Lib.hid hb
      clear hO hb
      go_wp2
      go_ret
      exact ⟨a2, c2, rfl, hac, (RowAt.of_own HO.out).2.mono (fun b hb => ⟨by omega, hb.2⟩), HB.out.trans (HBL.out.mono hs1)⟩
theorem bound_any (now : Int) (w : World) (h : TreeAt g D w p mb ib nb T) (hT : OkM T) : Calls Tryz.prog 24 #[ptr p, .int .u64 now] w fun e w' => e = .returned (.bool (decide (0 < (liveM T now).length))) ∧ Below w.heap.size w w' := by
  have HL := Lib.hid (live_any now w h hT)
  clear h hT
  obtain ⟨zs, hzs⟩ : ∃ zs, zs = liveM T now := ⟨_, rfl⟩
  rw [← hzs] at HL ⊢
  clear hzs
  go_enter Tryz.func24, Tryz.ntmps24
  go_wp2_with fail
  (with_reducible refine HL.out.mono ?_)
  rintro e w1 ⟨a, cap, rfl, hcap, hr, hB⟩
  have HB := Lib.hid hB
  clear hr hB
  go_wp2_with fail
  go_ret
  exact ⟨ret_bool (by simp), HB.out⟩
end
section
variable {W w : World} {P : Nat → Prop} {p : Nat} {T : TrM}
theorem in_live (h : TreeIn W P w p T) (now : Int) : Calls Tryz.prog 57 #[ptr p, .int .u64 now] w (NewInts w (liveM T now)) := by
  obtain ⟨g, D, mb, ib, nb, hA, hF⟩ := h.at_
  exact live_any now w hA h.ok
theorem in_bound (h : TreeIn W P w p T) (now : Int) : Calls Tryz.prog 24 #[ptr p, .int .u64 now] w fun e w' => e = .returned (.bool (decide (0 < (liveM T now).length))) ∧ Below w.heap.size w w' := by
  obtain ⟨g, D, mb, ib, nb, hA, hF⟩ := h.at_
  exact bound_any now w hA h.ok
end
end Go.Proofs.YtpgklnhkfgbpgaaGreat
namespace Go.Proofs.YtpgklnhkfgbpgaaGreat
open Go.ChangeShapes Go.WideShapes Go.ChangeAt Go.RowKit
set_option linter.unusedVariables false
set_option linter.unusedSimpArgs false

def allM (S : SnM) : List Int := S.l.map (·.id)
theorem allM_take {l : List OneM} {k : Nat} {x : OneM} (h : l[k]? = some x) : (l.take (k + 1)).map OneM.id = (l.take k).map OneM.id ++ [x.id] := by
  obtain ⟨hk, e⟩ := List.getElem?_eq_some_iff.1 h
  rw [List.take_succ_eq_append_getElem hk, e, List.map_append]; rfl
section
variable {w : World} {o : Mark} {i s : Nat} {S : SnM}
set_option maxRecDepth 100000 in
set_option maxHeartbeats 8000000 in
theorem all_any (h : SnapsO o i w s S) (hn8 : S.l.length ≤ 1000) : Calls Tryz.prog 8 #[ptr s] w (NewInts w (allM S)) := by
  obtain ⟨ti, hi, hz0, hz1, hz2⟩ := info_parts infoInt
  obtain ⟨v, la, lc, vals, h1, h2, h3, h4, h5, h6, h7, h8⟩ := h.at_
  obtain ⟨a, c, rfl, hcap⟩ := own_form h4
  obtain ⟨-, -, hrow⟩ := RowAt.of_rown h4 (by unfold maxLen; omega)
  have c0 : w.cell? ⟨s, 0, none⟩ = some (.slice a S.l.length c) := by simp [World.cell?, h1]
  unfold allM
  obtain ⟨l, hl⟩ : ∃ l, l = S.l := ⟨_, rfl⟩
  rw [← hl] at c0 hrow hcap hn8 h6 ⊢
  obtain ⟨n, hnl⟩ : ∃ n, n = l.length := ⟨_, rfl⟩
  rw [← hnl] at c0 hrow hcap hn8
  have HR := Lib.hid hrow
  have HON := Lib.hid h6
  have HNL := Lib.hid hnl
  clear h h1 h2 h4 h5 h6 h7 h8 hrow hnl hl
  go_enter Tryz.func8, Tryz.ntmps8
  go_wp2_with fail
  go_loopw [3, 11] (fun v i wr => ∃ k : Nat, k ≤ n ∧ i = .int .i64 k ∧ wr.ownsRow w.heap.size 3 1 v k (((l.take k).map OneM.id).map (Value.int .i64)) ∧ Below w.heap.size w wr) (fun _ i _ => n - (intOf i).toNat)
  case atStart => exact ⟨0, by omega, rfl, ⟨rfl, .inl ⟨rfl, rfl⟩⟩, Below.refl _ _⟩
  case round =>
    obtain ⟨k, hk, rfl, hO, hb⟩ := hrel
    have hbs := hb.size
    by_cases hlt : k < n
    · obtain ⟨g, off, rfl, _, hgw, hcell⟩ := HR.out.at_ (by omega)
      obtain ⟨x, hx⟩ : ∃ x, l[k]? = some x := ⟨l[k]'(by have := HNL.out; omega), List.getElem?_eq_getElem _⟩
      obtain ⟨ha, hcp, q, e0, e1, e2, _⟩ := HON.out.at_ hx
      have d0 : wr.cell? ⟨g, off + k * 3, none⟩ = some (.int .i64 x.id) := (hb.cell (p := ⟨g, off + k * 3, none⟩) hgw).trans ((hcell (k * 3) (by omega)).trans e0)
      have d1 : wr.cell? ⟨g, off + k * 3 + 1, none⟩ = some (.slice ha x.hash.length hcp) := (hb.cell (p := ⟨g, off + k * 3 + 1, none⟩) hgw).trans ((hcell (k * 3 + 1) (by omega)).trans e1)
      have d2 : wr.cell? ⟨g, off + k * 3 + 2, none⟩ = some (ptr q) := (hb.cell (p := ⟨g, off + k * 3 + 2, none⟩) hgw).trans ((hcell (k * 3 + 2) (by omega)).trans e2)
      have HTK := Lib.hid (allM_take hx)
      have HO := Lib.hid hO
      have HBL := Lib.hid hb
      obtain ⟨a5, c5, rfl, hac5⟩ := own_form hO
      have hb5 : Below wr.heap.size wr ((wr.alloc (.cells #[.int .i64 x.id, .slice ha x.hash.length hcp, ptr q] 62)).alloc (.cells #[.int .i64 x.id] 3)) := (wall wr _).trans ((wall _ _).mono (by simp))
      have HO5 := Lib.hid (own_below HO.out hb5)
      have HB5 := Lib.hid hb5
      have HROW := Lib.hid (one_row (w := wr.alloc (.cells #[.int .i64 x.id, .slice ha x.hash.length hcp, ptr q] 62)) (.int .i64 x.id) 3)
      rw [World.size_alloc] at HROW
      have hz5 := hb5.size
      clear hx hcell e0 e1 e2 hO hb hb5
      go_wp2_with (at_builtin; (refine wpList_append_row (by rfl) _ _ 37 (by rfl) w.heap.size 3 ti (.int .i64 0) 8 Tryz.underlying37 hi hz0 hz1 hz2 rfl _ _ _ (by rfl) HO5.out (some ⟨wr.heap.size + 1, 0, none⟩) 1 1 [.int .i64 x.id] (by rfl) HROW.out (one_ints [x.id]) (by unfold maxLen; omega) (by omega) (Nat.le_trans hbs hz5) ?_); intro A' c' w6 hown6 hgrow6 _ _)
      have HO6 := Lib.hid hown6
      have HG6 := Lib.hid hgrow6
      clear hown6 hgrow6
      go_roundw
      case rel =>
        refine ⟨k + 1, by omega, by go_num, ?_, ?_⟩
        · rw [HTK.out, List.map_append]
          exact HO6.out
        · exact (HBL.out.trans (HB5.out.mono hbs)).grown HG6.out (by omega) (own_block_ge HO5.out)
      case measure => simp [intOf]; omega
    · obtain rfl : n = k := by omega
      rw [List.take_of_length_le (by rw [HNL.out]; exact Nat.le_refl _)] at hO
      obtain ⟨a2, c2, rfl, hac⟩ := own_form hO
      have HO := Lib.hid hO
      have HBL := Lib.hid hb
      clear hO hb
      go_wp2
      go_ret
      have := (RowAt.of_own HO.out).2
      have e1 := HNL.out
      subst e1
      rw [show l.length = (l.map OneM.id).length from (List.length_map _).symm] at this hac ⊢
      exact ⟨a2, c2, rfl, hac, this.mono (fun b hb => ⟨by omega, hb.2⟩), HBL.out⟩
end
end Go.Proofs.YtpgklnhkfgbpgaaGreat
