/- The reference: right, look, Look, file. The reference's lists, plainly: what becomes of the nodes and of the entries. -/
import Derived.Test.YtbapdoicejakhaaGreatM26
import Derived.Test.YtbapdoicejakhaaGreatM24
namespace Go.Proofs.YtbapdoicejakhaaGreat
open Go.ChangeShapes Go.WideShapes Go.ChangeAt Go.RowKit
set_option linter.unusedVariables false
set_option linter.unusedSimpArgs false

theorem mem_ents {T : TrM} (hs : ASorted ilt T) {e : Ent} : e ∈ entsM T ↔ ∃ x, aget e.1 T = some x ∧ e.2 ∈ x.names := by
  unfold entsM
  rw [List.mem_flatMap]
  constructor
  · rintro ⟨q, hq, he⟩
    obtain ⟨y, hy, rfl⟩ := List.mem_map.1 he
    exact ⟨q.2, aget_of_mem iltLaws hs hq, hy⟩
  · rintro ⟨x, hx, he⟩
    exact ⟨(e.1, x), aget_mem hx, List.mem_map.2 ⟨e.2, he, rfl⟩⟩
theorem ent_none {T : TrM} (hs : ASorted ilt T) {id : Int} {x : ItM} {nm : Nm} (hx : aget id T = some x) (hn : aget nm x.names = none) : idxI (isEnt id nm) (entsM T) = -1 := by
  refine idxI_none ?_
  rw [List.any_eq_false]
  intro e he h
  obtain ⟨y, hy, hm⟩ := (mem_ents hs).1 he
  simp only [isEnt, decide_eq_true_eq] at h
  rw [h.1, hx] at hy
  cases hy
  exact aget_none.1 hn _ hm h.2
theorem ent_some {T : TrM} (hT : OkP T) {id j : Int} {x : ItM} {nm : Nm} (hx : aget id T = some x) (hn : aget nm x.names = some j) : ∃ k : Nat, idxI (isEnt id nm) (entsM T) = k ∧ (entsM T)[k]? = some (id, nm, j) := by
  have hmem : ((id, nm, j) : Ent) ∈ entsM T := (mem_ents hT.sorted).2 ⟨x, hx, aget_mem hn⟩
  cases hf : (entsM T).findIdx? (isEnt id nm) with
  | none =>
    rw [List.findIdx?_eq_none_iff] at hf
    have := hf _ hmem
    simp [isEnt] at this
  | some k =>
    refine ⟨k, by simp [idxI, hf], ?_⟩
    rw [List.findIdx?_eq_some_iff_getElem] at hf
    obtain ⟨hk, hp, _⟩ := hf
    have h1 : (entsM T)[k]? = some (entsM T)[k] := List.getElem?_eq_getElem hk
    obtain ⟨e, he⟩ : ∃ e, e = (entsM T)[k] := ⟨_, rfl⟩
    have hm := List.getElem_mem hk
    rw [← he] at h1 hp hm
    simp only [isEnt, decide_eq_true_eq] at hp
    obtain ⟨y, hy, hm2⟩ := (mem_ents hT.sorted).1 hm
    rw [hp.1, hx] at hy
    cases hy
    have h3 := aget_of_mem bbLt (hT.each id x hx).sorted hm2
    rw [hp.2, hn] at h3
    rw [h1]
    congr 1
    exact Prod.ext hp.1 (Prod.ext hp.2 (Option.some.inj h3).symm)
theorem cell_str {S : Nat → Prop} {w : World} {a : Option Addr} {n : Nat} {ls : List Nm} (h : StrsAt S w a n (ls.map strOf)) (k : Nat) (hk : k < n) : ∃ b off nm, a = some ⟨b, off, none⟩ ∧ S b ∧ b < w.heap.size ∧ ls[k]? = some nm ∧ nm.length ≤ maxLen ∧ w.cell? ⟨b, off + k, none⟩ = some (.string (strOf nm)) := by
  obtain ⟨b, off, s, e, hS, hb, hs, hsz, hc⟩ := h.cell k hk
  rw [List.getElem?_map] at hs
  cases hq : ls[k]? with
  | none => rw [hq] at hs; cases hs
  | some nm =>
    rw [hq] at hs
    have : strOf nm = s := by simpa using hs
    subst this
    rw [strOf_size] at hsz
    exact ⟨b, off, nm, e, hS, hb, rfl, hsz, hc⟩
theorem fineL_bad {ls : List Nm} (h : ls.any (fun x => !goodL x) = true) : fineL ls = 12 := by unfold fineL; rw [if_pos h]
theorem fineL_ok {ls : List Nm} (h : ls.any (fun x => !goodL x) = false) : fineL ls = if 8 < ls.length then 3 else 0 := by unfold fineL; rw [if_neg (by rw [h]; decide)]
set_option maxHeartbeats 1000000 in
theorem rright_any {S : Nat → Prop} (a : Option Addr) (n c : Nat) (ls : List Nm) (w : World) (hS : StrsAt S w a n (ls.map strOf)) :
    Calls Tryz.prog 61 #[.slice a n c] w fun e w' => e = .returned (.int .i64 (fineL ls)) ∧ Below w.heap.size w w' := by
  have hln : ls.length = n := by have := hS.length; simpa using this
  have hnm := hS.row.small
  unfold maxLen at hnm
  have HS := Lib.hid (fun w1 (hb : Below w.heap.size w w1) => hS.below hb (Nat.le_refl _))
  have HL := Lib.hid hln
  clear hS hln
  go_enter Tryz.func61, Tryz.ntmps61
  go_wp2
  go_loopw [3] (fun i wr => ∃ k : Nat, k ≤ n ∧ i = .int .i64 k ∧ (ls.take k).any (fun x => !goodL x) = false ∧ Below w.heap.size w wr) (fun i _ => n - (intOf i).toNat)
  case atStart => exact ⟨0, by omega, rfl, by simp, Below.refl _ _⟩
  case round =>
    obtain ⟨k, hk, rfl, hany, hB⟩ := hrel
    have HA := Lib.hid hany
    have HB := Lib.hid hB
    clear hany hB
    by_cases hlt : k < n
    · obtain ⟨b, off, nm, rfl, _, hbw, hx, hsz, hc⟩ := cell_str (HS.out wr HB.out) k hlt
      have HX := Lib.hid hx
      have HG := Lib.hid (rgood_any (strOf nm) wr (by rw [strOf_size]; exact hsz))
      have e0 : (strOf nm).data.toList = nm := by simp [strOf]
      rw [e0] at HG
      clear hx hsz e0
      have i0 : (0 : Int) ≤ k := by omega
      have i1 : (k : Int) < n := by omega
      cases hp : goodL nm with
      | true =>
        rw [hp] at HG
        have HP : Hid ((fun x : Nm => !goodL x) nm = false) := by show (!goodL nm) = false; rw [hp]; rfl
        clear hp
        go_wp2_with fail
        (with_reducible refine HG.out.mono ?_)
        rintro e w1 ⟨rfl, hb1⟩
        go_wp2_with fail
        go_roundw
        case rel => exact ⟨k + 1, by omega, by go_num, any_take_succ HA.out HX.out HP.out, HB.out.trans (hb1.mono HB.out.size)⟩
        case measure => simp [intOf]; omega
      | false =>
        rw [hp] at HG
        have HP : Hid (ls.any (fun x => !goodL x) = true) := by
          show ls.any _ = true
          rw [List.any_eq_true]
          exact ⟨nm, List.mem_of_getElem? HX.out, by rw [hp]; rfl⟩
        clear hp
        go_wp2_with fail
        (with_reducible refine HG.out.mono ?_)
        rintro e w1 ⟨rfl, hb1⟩
        go_wp2_with fail
        go_ret
        exact ⟨ret_int (fineL_bad HP.out).symm, HB.out.trans (hb1.mono HB.out.size)⟩
    · have HF : Hid (fineL ls = if 8 < n then 3 else 0) := by
        have := HA.out
        rw [List.take_of_length_le (by have := HL.out; omega)] at this
        have h2 := fineL_ok this
        rw [HL.out] at h2
        exact h2
      by_cases h8 : 8 < n
      · have hd : decide ((8 : Int) < (n : Int)) = true := by simp only [decide_eq_true_eq]; omega
        rw [if_pos h8] at HF
        clear h8
        go_wp2
        go_ret
        exact ⟨ret_int HF.out.symm, HB.out⟩
      · have hd : decide ((8 : Int) < (n : Int)) = false := by simp only [decide_eq_false_iff_not]; omega
        rw [if_neg h8] at HF
        clear h8
        go_wp2
        go_ret
        exact ⟨ret_int HF.out.symm, HB.out⟩
section
variable {F : Nat → Prop} {r : Nat} {T : TrM}
set_option maxHeartbeats 2000000 in
theorem rlook_any {S : Nat → Prop} (a : Option Addr) (n c : Nat) (ls : List Nm) (w : World) (h : RefAt F w r T) (hT : OkM T) (hE : (entsM T).length ≤ 1000000) (hS : StrsAt S w a n (ls.map strOf)) :
    Calls Tryz.prog 71 #[ptr r, .slice a n c] w fun e w' => e = .returned (.tuple #[.int .i64 (lookM T 0 ls).1, .int .i64 (lookM T 0 ls).2]) ∧ Below w.heap.size w w' := by
  have hln : ls.length = n := by have := hS.length; simpa using this
  have hnm := hS.row.small
  unfold maxLen at hnm
  have HS := Lib.hid (fun w1 (hb : Below w.heap.size w w1) => hS.below hb (Nat.le_refl _))
  have HH := Lib.hid (fun w1 (hb : Below w.heap.size w w1) => h.below hb (Nat.le_refl _))
  have hr0 := h.low r h.own
  have HT := Lib.hid hT
  have HL := Lib.hid hln
  have HE := Lib.hid hE
  clear hS hln h hT hE
  go_enter Tryz.func71, Tryz.ntmps71
  go_wp2
  go_loopw [6, 7] (fun s i wr => ∃ (k : Nat) (id : Int), k ≤ n ∧ i = .int .i64 k ∧ s = .int .i64 id ∧ (aget id T).isSome = true ∧ lookM T id (ls.drop k) = lookM T 0 ls ∧ Below w.heap.size w wr) (fun _ i _ => n - (intOf i).toNat)
  case atStart => exact ⟨0, 0, by omega, rfl, rfl, root_there HT.out, by simp, Below.refl _ _⟩
  case round =>
    obtain ⟨k, id, hk, rfl, rfl, hid, hlk, hB⟩ := hrel
    obtain ⟨x, hx⟩ := Option.isSome_iff_exists.1 hid
    have HLK := Lib.hid hlk
    have HX := Lib.hid hx
    have HB := Lib.hid hB
    have HSZ := Lib.hid hB.size
    clear hlk hid hx hB
    by_cases hlt : k < n
    · obtain ⟨b, off, nm, rfl, _, hbw, hn, hsz, hc⟩ := cell_str (HS.out wr HB.out) k hlt
      have HN := Lib.hid hn
      have HND := Lib.hid (rnode_any id wr (HH.out wr HB.out) HT.out.toOkP)
      have hnd : nodeM T id = nodeV id x := by unfold nodeM; rw [HX.out]
      rw [hnd] at HND
      unfold nodeV at HND
      have i0 : (0 : Int) ≤ k := by omega
      have i1 : (k : Int) < n := by omega
      clear hn hnd hsz
      by_cases hk2 : x.kind = 2
      · rw [hk2] at HND
        cases hj : aget nm x.names with
        | none =>
          have hfin := Lib.hid (lookM_none HX.out hk2 HN.out hj)
          have HEN := Lib.hid (fun w1 (hb : Below w.heap.size w w1) => rentry_any id nm w1 (HH.out w1 hb) HE.out)
          rw [ent_none HT.out.sorted HX.out hj] at HEN
          clear hj hk2
          go_wp2_with fail
          (with_reducible refine HND.out.mono ?_)
          rintro e w1 ⟨rfl, hb1⟩
          have HB1 := Lib.hid (HB.out.trans (hb1.mono HB.out.size))
          have hcb : b < w1.heap.size := Nat.lt_of_lt_of_le hbw hb1.size
          have hc1 : w1.cell? ⟨b, off + k, none⟩ = some (.string (strOf nm)) := by rw [hb1.cell (p := ⟨b, off + k, none⟩) hbw]; exact hc
          have hr1 : r < w1.heap.size := Nat.lt_of_lt_of_le hr0 HB1.out.size
          clear hb1
          go_wp2_with fail
          (with_reducible refine (HEN.out _ (HB1.out.trans ((wall w1 _).mono HB1.out.size))).mono ?_)
          rintro e w2 ⟨rfl, rfl⟩
          go_wp2_with fail
          go_ret2
          exact ⟨ret2_int (by rw [← HLK.out, hfin.out]), HB1.out.trans ((wall w1 _).mono HB1.out.size)⟩
        | some j =>
          have hfin := Lib.hid (lookM_step HX.out hk2 HN.out hj)
          have HJ := Lib.hid ((HT.out.leads id x HX.out _ (aget_mem hj)).1)
          have HEN := Lib.hid (fun w1 (hb : Below w.heap.size w w1) => rentry_any id nm w1 (HH.out w1 hb) HE.out)
          obtain ⟨m, hm1, hm2⟩ := ent_some HT.out.toOkP HX.out hj
          rw [hm1] at HEN
          have HM2 := Lib.hid hm2
          clear hj hk2 hm1 hm2
          go_wp2_with fail
          (with_reducible refine HND.out.mono ?_)
          rintro e w1 ⟨rfl, hb1⟩
          have HB1 := Lib.hid (HB.out.trans (hb1.mono HB.out.size))
          have hcb : b < w1.heap.size := Nat.lt_of_lt_of_le hbw hb1.size
          have hc1 : w1.cell? ⟨b, off + k, none⟩ = some (.string (strOf nm)) := by rw [hb1.cell (p := ⟨b, off + k, none⟩) hbw]; exact hc
          have hr1 : r < w1.heap.size := Nat.lt_of_lt_of_le hr0 HB1.out.size
          obtain ⟨aE, cE, q2, -, hrow, -⟩ := (HH.out w1 HB1.out).ent
          obtain ⟨b2, off2, rfl, -, hb2, hml, hc2⟩ := hrow.wide entC_len rfl HM2.out (by omega)
          have q3 : w1.cell? ⟨b2, off2 + m * 3 + 2, none⟩ = some (.int .i64 j) := hc2 2 (by omega)
          have m0 : (0 : Int) ≤ m := by omega
          have m1 : (m : Int) < (entsM T).length := by omega
          have m2 : ¬ (m : Int) < 0 := by omega
          clear hb1 hrow hc2
          go_wp2_with fail
          (with_reducible refine (HEN.out _ (HB1.out.trans ((wall w1 _).mono HB1.out.size))).mono ?_)
          rintro e w2 ⟨rfl, rfl⟩
          go_wp2_with fail
          go_roundw
          case rel => exact ⟨k + 1, j, by omega, by go_num, rfl, HJ.out, by rw [← hfin.out]; exact HLK.out, HB1.out.trans ((wall w1 _).mono HB1.out.size)⟩
          case measure => simp [intOf]; omega
      · have e1 : (x.kind == 2) = false := by simpa using hk2
        have e2 : (x.kind != 2) = true := by simpa using hk2
        have hfin := Lib.hid (lookM_file HX.out hk2 HN.out)
        clear hk2
        go_wp2_with fail
        (with_reducible refine HND.out.mono ?_)
        rintro e w1 ⟨rfl, hb1⟩
        have HB1 := Lib.hid (HB.out.trans (hb1.mono HB.out.size))
        clear hb1
        go_wp2_with fail
        go_ret2
        exact ⟨ret2_int (by rw [← HLK.out, hfin.out]), HB1.out.trans ((wall w1 _).mono HB1.out.size)⟩
    · go_wp2
      go_ret2
      exact ⟨ret2_int (by rw [← HLK.out, List.drop_of_length_le (by have := HL.out; omega)]; rfl), HB.out⟩
end
end Go.Proofs.YtbapdoicejakhaaGreat
namespace Go.Proofs.YtbapdoicejakhaaGreat
open Go.ChangeShapes Go.WideShapes Go.ChangeAt Go.RowKit
set_option linter.unusedVariables false
set_option linter.unusedSimpArgs false

theorem less_is : ∀ a b : List UInt8, Op.bytesLess a b = bytesBefore a b
  | [], [] => rfl
  | [], _ :: _ => rfl
  | _ :: _, [] => rfl
  | x :: r, y :: s => by
    unfold Op.bytesLess bytesBefore
    rw [less_is r s]
/-- Does an entry stand before a name? -/
def entLt (d : Int) (nm : Nm) (e : Ent) : Bool := decide (e.1 < d) || (decide (e.1 = d) && bytesBefore e.2.1 nm)
/-- An entry more, in its place. -/
def addE (E : List Ent) (d : Int) (nm : Nm) (id : Int) : List Ent := E.takeWhile (entLt d nm) ++ (d, nm, id) :: E.dropWhile (entLt d nm)
theorem take_while {α : Type} {p : α → Bool} : ∀ {l : List α} {k : Nat}, (l.take k).all p = true → (∀ x, l[k]? = some x → p x = false) → k ≤ l.length → l.takeWhile p = l.take k ∧ l.dropWhile p = l.drop k
  | [], k, _, _, hk => by simp
  | y :: r, 0, _, h, _ => by
    have := h y (by simp)
    simp [this]
  | y :: r, k + 1, ha, h, hk => by
    simp only [List.take_succ_cons, List.all_cons, Bool.and_eq_true] at ha
    obtain ⟨h1, h2⟩ := take_while (l := r) (k := k) ha.2 (fun x hx => h x (by simpa using hx)) (by simpa using hk)
    simp [ha.1, h1, h2]
section
variable {κ α : Type} {lt : κ → κ → Bool}
theorem ains_eq (L : LtLaws lt) (x : κ × α) : ∀ (l : List (κ × α)), (∀ p ∈ l, p.1 ≠ x.1) → ains lt x l = l.takeWhile (fun y => lt y.1 x.1) ++ x :: l.dropWhile (fun y => lt y.1 x.1) ∨ ¬ ASorted lt l
  | [], _ => .inl (by simp [ains])
  | y :: r, hn => by
    have hy : y.1 ≠ x.1 := hn y (by simp)
    have no : ∀ a b, lt a b = true → lt b a = false := fun a b h => by
      cases h3 : lt b a with
      | false => rfl
      | true => have := L.trans _ _ _ h h3; rw [L.irr] at this; cases this
    by_cases hs : ASorted lt (y :: r)
    · left
      rcases L.tot y.1 x.1 hy with h | h
      · have h2 := no _ _ h
        unfold ains
        rcases ains_eq L x r (fun p hp => hn p (by simp [hp])) with h3 | h3
        · rw [if_neg (by rw [h2]; decide), List.takeWhile_cons, List.dropWhile_cons, if_pos h, if_pos h, h3]
          rfl
        · exact absurd (List.pairwise_cons.1 hs).2 h3
      · have h2 := no _ _ h
        unfold ains
        rw [if_pos h, List.takeWhile_cons, List.dropWhile_cons, if_neg (by rw [h2]; decide), if_neg (by rw [h2]; decide)]
        rfl
    · exact .inr hs
end
theorem addE_pass {d id : Int} {nm : Nm} {A B : List Ent} (h : ∀ e ∈ A, entLt d nm e = true) : addE (A ++ B) d nm id = A ++ addE B d nm id := by
  unfold addE
  rw [List.takeWhile_append_of_pos h, List.dropWhile_append_of_pos h, List.append_assoc]
theorem while_stop {α : Type} {p : α → Bool} : ∀ {B : List α}, (∀ e ∈ B, p e = false) → B.takeWhile p = [] ∧ B.dropWhile p = B
  | [], _ => ⟨rfl, rfl⟩
  | e :: r, h => by
    have := h e (by simp)
    simp [this]
theorem addE_stop {d id : Int} {nm : Nm} {B : List Ent} (h : ∀ e ∈ B, entLt d nm e = false) : ∀ A : List Ent, addE (A ++ B) d nm id = addE A d nm id ++ B
  | [] => by
    obtain ⟨h1, h2⟩ := while_stop h
    unfold addE
    rw [List.nil_append, h1, h2]
    simp
  | e :: r => by
    have ih := addE_stop (id := id) h r
    unfold addE at ih ⊢
    rw [List.cons_append, List.takeWhile_cons, List.dropWhile_cons, List.takeWhile_cons, List.dropWhile_cons]
    cases he : entLt d nm e with
    | true =>
      simp only [if_true, List.cons_append, ih]
    | false => simp
theorem entsM_cons (y : Int × ItM) (r : TrM) : entsM (y :: r) = entsOf y ++ entsM r := by unfold entsM; rw [List.flatMap_cons]
theorem ent_key {T : TrM} {e : Ent} (h : e ∈ entsM T) : ∃ q ∈ T, q.1 = e.1 ∧ e.2 ∈ q.2.names := by
  unfold entsM at h
  obtain ⟨q, hq, he⟩ := List.mem_flatMap.1 h
  obtain ⟨y, hy, rfl⟩ := List.mem_map.1 he
  exact ⟨q, hq, rfl, hy⟩
theorem amod_cons (k : Int) (f : ItM → ItM) (y : Int × ItM) (r : TrM) : amod k f (y :: r) = (if y.1 = k then (y.1, f y.2) else y) :: amod k f r := rfl
theorem amod_miss {k : Int} {f : ItM → ItM} {r : TrM} (h : ∀ q ∈ r, q.1 ≠ k) : amod k f r = r := by
  unfold amod
  conv => rhs; rw [← List.map_id r]
  apply List.map_congr_left
  intro q hq
  rw [if_neg (h q hq)]
  rfl
/-- An entry more is a name that is set. -/
theorem ents_add {d id : Int} {nm : Nm} : ∀ {T : TrM} {x : ItM}, ASorted ilt T → aget d T = some x → ASorted bytesBefore x.names → aget nm x.names = none → addE (entsM T) d nm id = entsM (setName T d nm id)
  | [], x, _, hx, _, _ => by cases hx
  | y :: r, x, hs, hx, hns, hn => by
    obtain ⟨h1, h2⟩ := List.pairwise_cons.1 hs
    rw [aget_cons] at hx
    unfold setName
    rw [amod_cons, entsM_cons, entsM_cons]
    by_cases hy : y.1 = d
    · rw [if_pos hy] at hx
      cases hx
      rw [if_pos hy, amod_miss (fun q hq => by have := h1 q hq; simp at this; omega)]
      rw [addE_stop (fun e he => by
        obtain ⟨q, hq, hk, _⟩ := ent_key he
        have := h1 q hq
        simp only [decide_eq_true_eq] at this
        unfold entLt
        have a1 : ¬ e.1 < d := by omega
        have a2 : ¬ e.1 = d := by omega
        simp [a1, a2])]
      congr 1
      unfold addE entsOf
      have hp : (entLt d nm) ∘ (fun e : Nm × Int => ((y.1, e.1, e.2) : Ent)) = fun e => bytesBefore e.1 nm := by
        funext e
        simp [entLt, hy]
      rw [List.takeWhile_map, List.dropWhile_map, hp]
      have hk : ∀ p ∈ y.2.names, p.1 ≠ nm := aget_none.1 hn
      unfold aput
      rw [adel_none hn]
      rcases ains_eq bbLt (nm, id) y.2.names hk with h3 | h3
      · rw [h3, List.map_append, List.map_cons, hy]
      · exact absurd hns h3
    · rw [if_neg hy] at hx
      rw [if_neg hy]
      have hlt := h1 _ (aget_mem hx)
      simp only [decide_eq_true_eq] at hlt
      rw [addE_pass (fun e he => by
        obtain ⟨z, hz, rfl⟩ := List.mem_map.1 he
        unfold entLt
        simp [hlt])]
      rw [ents_add h2 hx hns hn]
      rfl
theorem cut_filter {α : Type} {p : α → Bool} : ∀ {l : List α} {k : Nat} {x : α}, l[k]? = some x → p x = true → l.Pairwise (fun a b => ¬ (p a = true ∧ p b = true)) → l.take k ++ l.drop (k + 1) = l.filter fun a => !p a
  | [], k, x, h, _, _ => by simp at h
  | y :: r, 0, x, h, hp, hw => by
    simp only [List.getElem?_cons_zero, Option.some.injEq] at h
    subst h
    have h1 := (List.pairwise_cons.1 hw).1
    simp only [List.take_zero, List.nil_append, Nat.zero_add, List.drop_succ_cons, List.drop_zero, List.filter_cons, hp, Bool.not_true]
    rw [if_neg (by decide)]
    symm
    rw [List.filter_eq_self]
    intro a ha
    cases hpa : p a with
    | false => rfl
    | true => exact absurd ⟨hp, hpa⟩ (h1 a ha)
  | y :: r, k + 1, x, h, hp, hw => by
    obtain ⟨h1, h2⟩ := List.pairwise_cons.1 hw
    have hx : r[k]? = some x := by simpa using h
    have hy : p y = false := by
      cases hpy : p y with
      | false => rfl
      | true => exact absurd ⟨hpy, hp⟩ (h1 x (List.mem_of_getElem? hx))
    rw [List.take_succ_cons, List.drop_succ_cons, List.cons_append, cut_filter hx hp h2, List.filter_cons, hy]
    rfl
theorem ents_apart {T : TrM} (hs : ASorted ilt T) (hn : ∀ q ∈ T, ASorted bytesBefore q.2.names) (d : Int) (nm : Nm) : (entsM T).Pairwise fun a b => ¬ (isEnt d nm a = true ∧ isEnt d nm b = true) := by
  unfold entsM
  rw [List.pairwise_flatMap]
  refine ⟨fun q hq => ?_, ?_⟩
  · unfold entsOf
    rw [List.pairwise_map]
    refine List.Pairwise.imp (fun {a b} hab => ?_) (hn q hq)
    simp only [isEnt, decide_eq_true_eq]
    rintro ⟨⟨_, h1⟩, _, h2⟩
    rw [h1, h2, bbLt.irr] at hab
    cases hab
  · refine List.Pairwise.imp (fun {a b} hab => ?_) hs
    intro x hx y hy
    obtain ⟨x', _, rfl⟩ := List.mem_map.1 hx
    obtain ⟨y', _, rfl⟩ := List.mem_map.1 hy
    simp only [isEnt, decide_eq_true_eq]
    rintro ⟨⟨h1, _⟩, h2, _⟩
    simp only [decide_eq_true_eq] at hab
    omega
theorem ents_cut (d : Int) (nm : Nm) : ∀ T : TrM, (entsM T).filter (fun e => !isEnt d nm e) = entsM (cutName T d nm)
  | [] => rfl
  | y :: r => by
    have ih := ents_cut d nm r
    unfold cutName at ih ⊢
    rw [amod_cons, entsM_cons, entsM_cons, List.filter_append, ih]
    congr 1
    unfold entsOf
    rw [List.filter_map]
    by_cases hy : y.1 = d
    · rw [if_pos hy]
      unfold adel
      simp only
      congr 1
      apply List.filter_congr
      intro e _
      simp [isEnt, hy]
    · rw [if_neg hy]
      congr 1
      rw [List.filter_eq_self]
      intro e _
      simp [isEnt, hy]
theorem ents_nil : ∀ {T : TrM}, (∀ q ∈ T, q.2.names = []) → entsM T = []
  | [], _ => rfl
  | y :: r, h => by rw [entsM_cons, ents_nil fun q hq => h q (by simp [hq])]; unfold entsOf; rw [h y (by simp)]; rfl
theorem ents_ains {x : Int × ItM} (hx : x.2.names = []) : ∀ T : TrM, entsM (ains ilt x T) = entsM T
  | [] => by
    unfold ains
    rw [entsM_cons]; unfold entsOf; rw [hx]; rfl
  | y :: r => by
    unfold ains
    split
    · rw [entsM_cons]; unfold entsOf; rw [hx]; rfl
    · rw [entsM_cons, entsM_cons, ents_ains hx r]
theorem ents_new {T : TrM} {f kind : Int} (hf : aget f T = none) : entsM (aput ilt f (freshM kind) T) = entsM T := by
  unfold aput
  rw [adel_none hf]
  exact ents_ains (x := (f, freshM kind)) rfl T
theorem ents_del {id : Int} : ∀ {T : TrM}, (∀ q ∈ T, q.1 = id → q.2.names = []) → entsM (adel id T) = entsM T
  | [], _ => rfl
  | y :: r, h => by
    have ih := ents_del (T := r) (id := id) fun q hq => h q (by simp [hq])
    unfold adel at ih ⊢
    rw [List.filter_cons]
    by_cases hy : y.1 = id
    · have := h y (by simp) hy
      simp only [hy, decide_true, Bool.not_true]
      rw [if_neg (by decide), ih, entsM_cons]
      unfold entsOf
      rw [this]; rfl
    · simp only [hy, decide_false, Bool.not_false, if_true]
      rw [entsM_cons, entsM_cons, ih]
theorem ents_amod {id : Int} {f : ItM → ItM} (hf : ∀ x, (f x).names = x.names) : ∀ T : TrM, entsM (amod id f T) = entsM T
  | [] => rfl
  | y :: r => by
    rw [amod_cons, entsM_cons, entsM_cons, ents_amod hf r]
    congr 1
    by_cases hy : y.1 = id
    · rw [if_pos hy]; unfold entsOf; simp only; rw [hf]
    · rw [if_neg hy]
theorem ents_strip (id : Int) : ∀ T : TrM, entsM (stripM T id) = (entsM T).filter fun e => !decide (e.2.2 = id)
  | [] => rfl
  | y :: r => by
    have : stripM (y :: r) id = (y.1, stripI id y.2) :: stripM r id := rfl
    rw [this, entsM_cons, entsM_cons, List.filter_append, ents_strip id r]
    congr 1
    unfold entsOf stripI
    simp only
    rw [List.filter_map]
    rfl
theorem at_apart {T : TrM} (hs : ASorted ilt T) (id : Int) : T.Pairwise fun a b => ¬ (isAt id a = true ∧ isAt id b = true) := by
  refine List.Pairwise.imp (fun {a b} hab => ?_) hs
  simp only [isAt, decide_eq_true_eq]
  simp only [decide_eq_true_eq] at hab
  omega
theorem del_at {T : TrM} (hs : ASorted ilt T) {k : Nat} {q : Int × ItM} (hq : T[k]? = some q) : T.take k ++ T.drop (k + 1) = adel q.1 T := by
  rw [cut_filter (p := isAt q.1) hq (by simp [isAt]) (at_apart hs q.1)]
  rfl
theorem amod_at {f : ItM → ItM} : ∀ {T : TrM} {k : Nat} {q : Int × ItM}, ASorted ilt T → T[k]? = some q → T.set k (q.1, f q.2) = amod q.1 f T
  | [], k, q, _, h => by simp at h
  | y :: r, 0, q, hs, h => by
    simp only [List.getElem?_cons_zero, Option.some.injEq] at h
    subst h
    obtain ⟨h1, _⟩ := List.pairwise_cons.1 hs
    rw [amod_cons, if_pos rfl, amod_miss (fun p hp => by have := h1 p hp; simp at this; omega)]
    rfl
  | y :: r, k + 1, q, hs, h => by
    obtain ⟨h1, h2⟩ := List.pairwise_cons.1 hs
    have hx : r[k]? = some q := by simpa using h
    have := h1 q (List.mem_of_getElem? hx)
    simp only [decide_eq_true_eq] at this
    rw [amod_cons, if_neg (by omega), ← amod_at h2 hx]
    rfl
/-- A node's cells do not tell its names. -/
theorem nodes_amod {id : Int} {f : ItM → ItM} (hf : ∀ x, nodeC (id, f x) = nodeC (id, x)) : ∀ T : TrM, (amod id f T).flatMap nodeC = T.flatMap nodeC
  | [] => rfl
  | y :: r => by
    rw [amod_cons, List.flatMap_cons, List.flatMap_cons, nodes_amod hf r]
    congr 1
    by_cases hy : y.1 = id
    · rw [if_pos hy, hy, hf, ← hy]
    · rw [if_neg hy]
theorem data_amod {id : Int} {f : ItM → ItM} (hf : ∀ x, (f x).b = x.b) (T : TrM) : (amod id f T).map (fun q => q.2.b) = T.map fun q => q.2.b := by
  unfold amod
  rw [List.map_map]
  apply List.map_congr_left
  intro q _
  by_cases h : q.1 = id <;> simp [h, hf]
theorem nodes_strip (id : Int) (T : TrM) : (stripM T id).flatMap nodeC = T.flatMap nodeC := by
  unfold stripM
  rw [List.flatMap_map]
  rfl
theorem data_strip (id : Int) (T : TrM) : (stripM T id).map (fun q => q.2.b) = T.map fun q => q.2.b := by
  unfold stripM
  rw [List.map_map]
  rfl
theorem data_set {f : ItM → ItM} {T : TrM} {k : Nat} {q : Int × ItM} (hs : ASorted ilt T) (hq : T[k]? = some q) : (amod q.1 f T).map (fun q => q.2.b) = (T.map fun q => q.2.b).set k (f q.2).b := by
  rw [← amod_at hs hq, List.map_set]
/-- A node more, in its place. -/
theorem put_at {T : TrM} (hs : ASorted ilt T) {f : Int} (x : ItM) (hf : aget f T = none) : aput ilt f x T = T.takeWhile (fun q => decide (q.1 < f)) ++ (f, x) :: T.dropWhile fun q => decide (q.1 < f) := by
  unfold aput
  rw [adel_none hf]
  rcases ains_eq iltLaws (f, x) T (aget_none.1 hf) with h | h
  · exact h
  · exact absurd hs h
/-- The entries are few. -/
theorem ents_few {T : TrM} (hT : OkM T) : (entsM T).length ≤ 4096 := by
  have h1 := few_of (fun e : Ent => e.2.2) 64 (T.map (·.1)) (entsM T) (fun e he => by
    obtain ⟨x, hx, hm⟩ := (mem_ents hT.sorted).1 he
    obtain ⟨y, hy⟩ := Option.isSome_iff_exists.1 (hT.leads _ x hx e.2 hm).1
    exact List.mem_map.2 ⟨_, aget_mem hy, rfl⟩) (fun j hj => by
      have hcnt : (entsM T).countP (fun e => decide (e.2.2 = j)) = cntM T j := by
        unfold entsM cntM cn
        rw [List.countP_flatMap]
        congr 1
        apply List.map_congr_left
        intro q _
        unfold entsOf
        simp only [Function.comp_apply, List.countP_map]
        rfl
      rw [hcnt]
      by_cases h0 : j = 0
      · have : (entsM T).countP (fun e => decide (e.2.2 = j)) = 0 := by
          rw [List.countP_eq_zero]
          intro e he
          obtain ⟨x, hx, hm⟩ := (mem_ents hT.sorted).1 he
          have := (hT.leads _ x hx e.2 hm).2
          simp [h0, this]
        omega
      · obtain ⟨q, hq, rfl⟩ := List.mem_map.1 hj
        have hy := aget_of_mem iltLaws hT.sorted hq
        have h2 := hT.counts _ _ hy h0
        have h3 := (hT.each _ _ hy).links
        omega)
  have := hT.len
  rw [List.length_map] at h1
  omega
end Go.Proofs.YtbapdoicejakhaaGreat
