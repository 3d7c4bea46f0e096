/- tree: Read, Append. tree: New; Drop refused. -/
import Derived.Test.YtpgklnhkfgbpgaaGreatDoorM13
namespace Go.Proofs.YtpgklnhkfgbpgaaGreatDoor
open Go.ChangeShapes Go.WideShapes Go.ChangeAt Go.RowKit
set_option linter.unusedVariables false
set_option linter.unusedSimpArgs false

set_option maxHeartbeats 1000000 in
theorem part_bad (a : Option Addr) (l c : Nat) (at_ n : Int) (w : World) (h : at_ < 0 ∨ n < 0) :
    Calls Tryz.prog 78 #[.slice a l c, .int .i64 at_, .int .i64 n] w (RetPart w [] 1) := by
  by_cases h1 : at_ < 0
  · go_enter Tryz.func78, Tryz.ntmps78
    go_wp2
    go_ret2
    exact ⟨none, 0, 0, rfl, Nat.le_refl _, RowAt.nil _ _ _, Below.refl _ _⟩
  · have h2 : n < 0 := by omega
    have e1 : decide (at_ < 0) = false := by simpa using h1
    clear h
    go_enter Tryz.func78, Tryz.ntmps78
    go_wp2
    go_ret2
    exact ⟨none, 0, 0, rfl, Nat.le_refl _, RowAt.nil _ _ _, Below.refl _ _⟩
theorem part_any {S : Nat → Prop} (a : Option Addr) (l c : Nat) (bs : List UInt8) (at_ n : Int) (w : World) (hl : l ≤ 1000000000) (hlc : CapOk l c) (hA : (Lit.int .i64 at_).wf = true) (hN : (Lit.int .i64 n).wf = true) (hr : RowAt S w a l (bs.map bv)) :
    Calls Tryz.prog 78 #[.slice a l c, .int .i64 at_, .int .i64 n] w (RetPart w (partB bs at_ n) (partE at_ n)) := by
  simp only [Lit.wf, IntKind.min, IntKind.max, IntKind.signed, IntKind.bits, Bool.and_eq_true, decide_eq_true_eq] at hA hN
  by_cases h : at_ < 0 ∨ n < 0
  · unfold partB partE
    rw [if_pos h, if_pos h]
    exact part_bad a l c at_ n w h
  · unfold partB partE
    rw [if_neg h, if_neg h]
    have := part_ok (S := S) a l c bs at_.toNat n.toNat w hl hlc.1 hlc.2 (by simp at hA; omega) (by simp at hN; omega) hr
    rw [show ((at_.toNat : Nat) : Int) = at_ by omega, show ((n.toNat : Nat) : Int) = n by omega] at this
    exact this

section
variable {g : Nat → Own} {D : Nat → Prop} {p mb : Nat} {ib nb : Int → Nat} {T : TrM}
set_option maxHeartbeats 2000000 in
theorem read_any (id at_ n : Int) (w : World) (h : TreeAt g D w p mb ib nb T) (hok : ∀ x, aget id T = some x → x.b.length ≤ 4096) (hid : (Lit.int .i64 id).wf = true) (hA : (Lit.int .i64 at_).wf = true) (hN : (Lit.int .i64 n).wf = true) :
    Calls Tryz.prog 33 #[ptr p, .int .i64 id, .int .i64 at_, .int .i64 n] w (RetPart w (readB T id at_ n) (readE T id at_ n)) := by
  by_cases hf : fileE T id = 0
  · obtain ⟨x, hx, hk⟩ := fileE_zero hf
    have HF := Lib.hid (file_ok id hx hk w h hid)
    obtain ⟨a, c, c6, hcap, hr, _⟩ := (h.item id x hx).row
    have HP := Lib.hid (part_any (S := D) a x.b.length c x.b at_ n w (by have := hok x hx; omega) hcap hA hN hr)
    have e : readB T id at_ n = partB x.b at_ n ∧ readE T id at_ n = partE at_ n := by
      unfold readB readE
      rw [hx]
      simp only [if_neg hk, and_self]
    rw [e.1, e.2]
    clear h hx hok hA hN hid hf hk e hr hcap
    go_enter Tryz.func33, Tryz.ntmps33
    go_wp2_with fail
    (with_reducible refine HF.out.mono ?_)
    rintro e w1 ⟨rfl, rfl⟩
    go_wp2_with fail
    (with_reducible refine HP.out.mono ?_)
    rintro e w1 ⟨a1, n1, c1, rfl, hn1, hr1, hb1⟩
    have HR1 := Lib.hid hr1
    have HB1 := Lib.hid hb1
    clear hr1 hb1
    go_wp2_with fail
    go_ret2
    exact ⟨a1, n1, c1, rfl, hn1, HR1.out, HB1.out⟩
  · have hne : (fileE T id == 0) = false := by simpa using hf
    have HF := Lib.hid (file_err id _ rfl hf w h hid)
    obtain ⟨e1, e2⟩ := readE_err (at_ := at_) (n := n) hf
    rw [e1, e2]
    obtain ⟨k, hk⟩ : ∃ k, k = fileE T id := ⟨_, rfl⟩
    rw [← hk] at HF hne ⊢
    clear hf h hk hok e1 e2 hA hN hid
    go_enter Tryz.func33, Tryz.ntmps33
    go_wp2_with fail
    (with_reducible refine HF.out.mono ?_)
    rintro e w1 ⟨rfl, rfl⟩
    go_wp2_with fail
    go_ret2
    exact ⟨none, 0, 0, rfl, Nat.le_refl _, RowAt.nil _ _ _, Below.refl _ _⟩

theorem concat2_at {S S' : Nat → Prop} (a : Option Addr) (l c : Nat) (x : List UInt8) (a' : Option Addr) (l' c' : Nat) (y : List UInt8) (w : World) (hx : RowAt S w a l (x.map bv)) (hy : RowAt S' w a' l' (y.map bv)) (ht : l + l' ≤ 1000000000) :
    Calls Tryz.prog 65 #[.slice (some ⟨w.heap.size, 0, none⟩) 2 2] (w.alloc (.cells #[.slice a l c, .slice a' l' c'] 22)) fun e w' => ∃ a2 c2, e = .returned (.slice a2 (l + l') c2) ∧ CapOk (l + l') c2 ∧ RowAt (fun b => w.heap.size ≤ b ∧ b < w'.heap.size) w' a2 (l + l') ((x ++ y).map bv) ∧ Below w.heap.size w w' := by
  have e1 : x.length = l := by have := hx.length; simpa using this
  have e2 : y.length = l' := by have := hy.length; simpa using this
  have e3 : ([x, y] : List (List UInt8)).flatten = x ++ y := by simp
  have e4 : (x ++ y).length = l + l' := by rw [List.length_append, e1, e2]
  refine (concat_any (S := fun b => S b ∨ S' b) w.heap.size 2 [x, y] _ rfl (by omega) (by simp) (by rw [e3, e4]; exact ht) (fun k hk => ?_)).mono ?_
  · rcases (show k = 0 ∨ k = 1 by omega) with rfl | rfl
    · exact ⟨a, l, c, x, slice_cells2.1, (hx.below (wall w _) (Nat.le_refl _)).mono fun _ => .inl, rfl⟩
    · exact ⟨a', l', c', y, slice_cells2.2, (hy.below (wall w _) (Nat.le_refl _)).mono fun _ => .inr, rfl⟩
  · rintro e w' ⟨a2, c2, rfl, hc2, hr, hb⟩
    rw [e3, e4] at hr hc2
    rw [e3, e4]
    exact ⟨a2, c2, rfl, hc2, hr.mono fun b hb => ⟨by simp at hb; omega, hb.2⟩, (wall w _).trans (hb.mono (by simp))⟩

theorem append_end {w w1 : World} {id : Int} {x : ItM} {bs : List UInt8} {a2 : Option Addr} {l c2 : Nat} {v3 v : Value} (h : TreeAt g D w p mb ib nb T) (hb : Below w.heap.size w w1) (hx : aget id T = some x) (hl : bs.length = l) (hcap : CapOk (x.b.length + l) c2)
    (hr : RowAt (fun b => w.heap.size ≤ b ∧ b < w1.heap.size) w1 a2 (x.b.length + l) ((x.b ++ bs).map bv)) (h3 : v3 = .int .i64 ((x.b.length + l : Nat) : Int)) :
    Turn g D w p mb (amod id (fun x => { x with b := x.b ++ bs }) T) v (.returned v) ((w1.setCell ⟨ib id, 6, none⟩ (.slice a2 (x.b.length + l) c2)).setCell ⟨ib id, 3, none⟩ v3) := by
  subst h3
  have hA1 := h.below hb (Nat.le_refl _)
  have ti := h.tagi id x hx
  have hs := hb.size
  have hK := Keeps.set2 w1 (ib id) 6 3 (.slice a2 (x.b.length + l) c2) (.int .i64 ((x.b.length + l : Nat) : Int))
  obtain ⟨ax, cx, _, _, _, hc⟩ := (hA1.item id x hx).row
  have hlen : (x.b ++ bs).length = x.b.length + l := by rw [List.length_append, hl]
  refine ⟨rfl, g, fun b => D b ∨ (w.heap.size ≤ b ∧ b < w1.heap.size), ib, nb, ?_, fun b h => .inl h, fun b hb => hb.imp (fun h => h) fun h => h.1, ?_⟩
  · refine hA1.amod hx rfl (fun _ h => .inl h) (fun b hb => ?_) (by rw [size_set, size_set]; exact Nat.le_refl _) (fun b hbw h1 _ => hK.block b hbw (fun e => h1 (by rw [e]; exact ti))) ?_
    · rw [size_set, size_set]
      rcases hb with hb | hb
      · exact ⟨hA1.data b hb, hA1.dlow b hb⟩
      · refine ⟨?_, hb.2⟩
        cases hg : g b with
        | none => rfl
        | _ => have := h.low b (by rw [hg]; simp); omega
    · refine ⟨⟨a2, c2, ?_, by rw [hlen]; exact hcap, ?_⟩, fun hk => ?_⟩
      · rw [heap_set_same (heap_set_same hc)]
        simp only [itemCells, hlen]
        rfl
      · rw [hlen]
        refine hr.move hK.size fun b hb hbw => ⟨.inr hb, hK.block b hbw ?_⟩
        have := h.low (ib id) (by rw [ti]; simp)
        omega
      · have tn := h.tagn id x hx hk
        have e : nameL { x with b := x.b ++ bs } = nameL x := rfl
        rw [e]
        exact ((hA1.item id x hx).names hk).kept (hK.block _ (hA1.low _ (by rw [tn]; simp)) (fun e => by rw [e, ti] at tn; cases tn))
  · have hgi : g (ib id) ≠ .none := by rw [ti]; simp
    exact ⟨hK.os.trans hb.os, hK.tape.trans hb.tape, hK.output.trans hb.output, Nat.le_trans hs hK.size, fun b hbw hbg => (hK.block b (by omega) (fun e => hbg (by rw [e]; exact hgi))).trans (hb.block b hbw)⟩

set_option maxRecDepth 100000 in
set_option maxHeartbeats 4000000 in
theorem append_at {S : Nat → Prop} (id : Int) (a : Option Addr) (l c : Nat) (bs : List UInt8) (w : World) (h : TreeAt g D w p mb ib nb T) (hok : ∀ x, aget id T = some x → x.b.length ≤ 4096) (hid : (Lit.int .i64 id).wf = true) (hr : RowAt S w a l (bs.map bv)) (hl : l ≤ 1000000000) :
    Calls Tryz.prog 84 #[ptr p, .int .i64 id, .slice a l c] w (Turn g D w p mb (appendM T id bs).2 (.int .i64 (appendM T id bs).1)) := by
  have HH := Lib.hid h
  have hbl : bs.length = l := by have := hr.length; simpa using this
  by_cases hf : fileE T id = 0
  · obtain ⟨x, hx, hk⟩ := fileE_zero hf
    have HF := Lib.hid (file_ok id hx hk w h hid)
    obtain ⟨c0, c1, c2, c3, c4, c5, c7, hiw⟩ := (h.item id x hx).cell
    have hxb := hok x hx
    have hE : appendE T id bs = if x.closed then 27 else if 4096 < x.b.length + l then 15 else 0 := by unfold appendE; rw [hx, hbl]; simp only [if_neg hk]
    have HE := Lib.hid hE
    cases hcl : x.closed with
    | true =>
      have HM : Hid (appendM T id bs = (27, T)) := by
        unfold appendM
        rw [HE.out, hcl]; simp only [if_pos]; exact rfl
      rw [hcl] at c5
      clear hE hcl hx hk hf h c7 hok hr hbl
      go_enter Tryz.func84, Tryz.ntmps84
      go_wp2_with fail
      (with_reducible refine HF.out.mono ?_)
      rintro e w1 ⟨rfl, rfl⟩
      go_wp2_with fail
      go_ret
      rw [HM.out]
      exact Turn.same HH.out (Below.refl _ _) rfl
    | false =>
      rw [hcl] at c5
      by_cases hbig : 4096 < x.b.length + l
      · have HM : Hid (appendM T id bs = (15, T)) := by
          unfold appendM
          rw [HE.out, hcl]; simp only [Bool.false_eq_true, if_false, if_pos hbig]; exact rfl
        have hd : decide ((4096 : Int) - (x.b.length : Int) < (l : Int)) = true := by simp; omega
        clear hE hcl hx hk hf h c7 hok hr hbl
        go_enter Tryz.func84, Tryz.ntmps84
        go_wp2_with fail
        (with_reducible refine HF.out.mono ?_)
        rintro e w1 ⟨rfl, rfl⟩
        go_wp2_with fail
        go_ret
        rw [HM.out]
        exact Turn.same HH.out (Below.refl _ _) rfl
      · have HM : Hid (appendM T id bs = (0, amod id (fun x => { x with b := x.b ++ bs }) T)) := by
          unfold appendM
          rw [HE.out, hcl]; simp only [Bool.false_eq_true, if_false, if_neg hbig]; exact rfl
        have hd : decide ((4096 : Int) - (x.b.length : Int) < (l : Int)) = false := by simp; omega
        obtain ⟨ax, cx, c6, hcap, hrx, hcells⟩ := (h.item id x hx).row
        have HC := Lib.hid (concat2_at ax x.b.length cx x.b a l c bs w hrx hr (by omega))
        have HX := Lib.hid hx
        have HCE := Lib.hid hcells
        have HBL := Lib.hid hbl
        clear hE hcl hx hk hf h c7 hok hr hbl hrx hcells hcap
        go_enter Tryz.func84, Tryz.ntmps84
        go_wp2_with fail
        (with_reducible refine HF.out.mono ?_)
        rintro e w1 ⟨rfl, rfl⟩
        go_wp2_with fail
        (with_reducible refine HC.out.mono ?_)
        rintro e w1 ⟨a2, c2', rfl, hcap2, hr2, hb2⟩
        have hA1 := HH.out.below hb2 (Nat.le_refl _)
        have hi1 := hA1.item id x HX.out
        have hfz6 := hi1.frozen 6
        have hfz3 := hi1.frozen 3
        have hiw1 := hi1.cell.2.2.2.2.2.2.2
        obtain ⟨_, _, d6, _, _, _⟩ := hi1.row
        obtain ⟨_, _, _, d3, _, _, _, _⟩ := hi1.cell
        have HA1 := Lib.hid hA1
        have HR2 := Lib.hid hr2
        have HB2 := Lib.hid hb2
        have HCP := Lib.hid hcap2
        clear hA1 hr2 hb2 hcap2 hi1
        go_wp2_with fail
        go_ret
        rw [HM.out]
        exact append_end HH.out HB2.out HX.out HBL.out HCP.out HR2.out (by simp)
  · have hne : (fileE T id == 0) = false := by simpa using hf
    have HF := Lib.hid (file_err id _ rfl hf w h hid)
    have HM : Hid (appendM T id bs = (fileE T id, T)) := by
      unfold appendM
      rw [appendE_err hf, if_neg hf]; exact rfl
    obtain ⟨k, hk⟩ : ∃ k, k = fileE T id := ⟨_, rfl⟩
    rw [← hk] at HF hne HM
    clear hf h hk hok hr hbl
    go_enter Tryz.func84, Tryz.ntmps84
    go_wp2_with fail
    (with_reducible refine HF.out.mono ?_)
    rintro e w1 ⟨rfl, rfl⟩
    go_wp2_with fail
    go_ret
    rw [HM.out]
    exact Turn.same HH.out (Below.refl _ _) rfl
end
end Go.Proofs.YtpgklnhkfgbpgaaGreatDoor
namespace Go.Proofs.YtpgklnhkfgbpgaaGreatDoor
open Go.ChangeShapes Go.WideShapes Go.ChangeAt Go.RowKit
set_option linter.unusedVariables false
set_option linter.unusedSimpArgs false

/-- The block of a new tree's head, its map, its first item. -/
def newG (B b : Nat) : Own := if b = B then .items else if b = B + 1 then .item 0 else if b = B + 2 then .names 0 else .none
theorem new_mid {w w1 w2 : World} (hi : ItemAt (fun _ => False) w1 0 (w.heap.size + 1) (w.heap.size + 1 + 1) (freshM 2)) (hb : Below (w.heap.size + 1) (w.alloc (.map #[] 0)) w1) (hs : w.heap.size + 1 + 1 < w1.heap.size)
    (hM : MapAt intK w2 w.heap.size (aput intK.lt 0 (ptr (w.heap.size + 1)) [])) (hT : w1.mapTurned w2 w.heap.size) :
    TreeAt (fun b => if b = w2.heap.size then .head else newG w.heap.size b) (fun _ => False) (w2.alloc (.cells #[.map (some w.heap.size)] 100)) w2.heap.size w.heap.size (fun _ => w.heap.size + 1) (fun _ => w.heap.size + 2) newM ∧ Below w.heap.size w (w2.alloc (.cells #[.map (some w.heap.size)] 100)) := by
  have hsz := turned_size hT
  have hK := turned_keeps hT
  have hw3 : ∀ b, b < w2.heap.size → (w2.alloc (.cells #[.map (some w.heap.size)] 100)).heap[b]? = w2.heap[b]? := fun b hb => Below.heap_alloc _ _ _ hb
  have hget : ∀ k x, aget k newM = some x → k = 0 ∧ x = freshM 2 := fun k x h => by
    unfold newM at h
    rw [aget_cons] at h
    by_cases hk : (0 : Int) = k
    · rw [if_pos hk] at h; exact ⟨hk.symm, by cases h; rfl⟩
    · rw [if_neg hk] at h; cases h
  have hB0 : Below w.heap.size w (w.alloc (.map #[] 0)) := wall w _
  constructor
  · refine ⟨(MapKept.heap_alloc w2 _).1, ?_, fun k x hx => ?_, by simp, ?_, fun k x hx => ?_, fun k x hx _ => ?_, fun _ h => h.elim, fun b hb => ?_, fun _ h => h.elim⟩
    · have := hM.kept (hw3 _ (by omega))
      exact this
    · obtain ⟨rfl, rfl⟩ := hget k x hx
      refine hi.move (by simp; omega) ?_ (fun _ => ?_) (fun _ h => h.elim)
      · rw [hw3 _ (by omega), hK.block _ (by omega) (by omega)]
      · rw [hw3 _ (by omega), hK.block _ (by omega) (by omega)]
    · rw [if_neg (by omega)]; simp [newG]
    · obtain ⟨rfl, rfl⟩ := hget k x hx
      rw [if_neg (by omega)]; simp [newG]
    · obtain ⟨rfl, rfl⟩ := hget k x hx
      rw [if_neg (by omega)]; simp [newG]
    · rw [World.size_alloc]
      by_cases h1 : b = w2.heap.size
      · omega
      · rw [if_neg h1] at hb
        unfold newG at hb
        by_cases h2 : b = w.heap.size
        · omega
        · by_cases h3 : b = w.heap.size + 1
          · omega
          · by_cases h4 : b = w.heap.size + 2
            · omega
            · simp [h2, h3, h4] at hb
  · refine (hB0.trans (hb.mono (by omega))).trans ⟨hK.os, hK.tape, hK.output, by rw [World.size_alloc]; omega, fun b hbw => ?_⟩
    have := hb.size
    rw [World.size_alloc] at this
    rw [hw3 _ (by omega), hK.block _ (by omega) (by omega)]
set_option maxHeartbeats 1000000 in
theorem new_any (w : World) : Calls Tryz.prog 34 #[] w fun e w' => ∃ g mb ib nb p, e = .returned (ptr p) ∧ TreeAt g (fun _ => False) w' p mb ib nb newM ∧ (∀ b, g b ≠ .none → w.heap.size ≤ b) ∧ Below w.heap.size w w' := by
  have hmm := @run_makeMap Tryz.prog
  have HST : Hid (∀ w1, Below (w.heap.size + 1) (w.alloc (.map #[] 0)) w1 → ∃ w2, (Instr.mapUpdate 98 (.map (some w.heap.size)) (.int .i64 0) (ptr (w.heap.size + 1))).run Tryz.prog w1 = .ok () w2 ∧ MapAt intK w2 w.heap.size (aput intK.lt 0 (ptr (w.heap.size + 1)) []) ∧ w1.mapTurned w2 w.heap.size) := fun w1 hb => by
    have hm1 : MapAt intK w1 w.heap.size [] := (MapAt.made (F := intK) w).kept (hb.block _ (by omega))
    exact hm1.store_run intK Tryz.underlying98 (by show 0 < maxLen; unfold maxLen; omega) 0 _ (okInt (by omega) (by omega))
  go_enter Tryz.func34, Tryz.ntmps34
  go_wp2_with fail
  (with_reducible refine (fresh_any _ _ _).mono ?_)
  rintro e w1 ⟨rfl, hi1, hb1, hs1, hs2⟩
  rw [World.size_alloc] at hi1 hb1 hs1 hs2
  obtain ⟨w2, hrun2, hM2, hT2⟩ := HST.out w1 hb1
  have HI1 := Lib.hid hi1
  have HB1 := Lib.hid hb1
  have HM2 := Lib.hid hM2
  have HT2 := Lib.hid hT2
  have hs3 := hs2 rfl
  clear hi1 hb1 hM2 hT2 hs2
  go_wp2_with fail
  go_ret
  obtain ⟨h1, h2⟩ := new_mid HI1.out HB1.out hs3 HM2.out HT2.out
  refine ⟨_, _, _, _, _, rfl, h1, fun b hb => ?_, h2⟩
  have h3 := HB1.out.size
  rw [World.size_alloc] at h3
  have h4 := turned_size HT2.out
  by_cases e1 : b = w2.heap.size
  · omega
  · rw [if_neg e1] at hb
    unfold newG at hb
    by_cases e2 : b = w.heap.size
    · omega
    · by_cases e3 : b = w.heap.size + 1
      · omega
      · by_cases e4 : b = w.heap.size + 2
        · omega
        · simp [e2, e3, e4] at hb
theorem newM_ok : OkM newM := by
  have hget : ∀ k x, aget k newM = some x → k = 0 ∧ x = freshM 2 := fun k x h => by
    unfold newM at h
    rw [aget_cons] at h
    by_cases hk : (0 : Int) = k
    · rw [if_pos hk] at h; exact ⟨hk.symm, by cases h; rfl⟩
    · rw [if_neg hk] at h; cases h
  refine ⟨⟨by simp [newM, ASorted], rfl, fun k x hx => ?_, fun k x hx e he => ?_, by simp [newM], fun k x hx => ?_⟩, fun k x hx hk => ?_⟩
  · obtain ⟨rfl, rfl⟩ := hget k x hx; exact ok1_fresh (.inr rfl)
  · obtain ⟨rfl, rfl⟩ := hget k x hx; cases he
  · obtain ⟨rfl, rfl⟩ := hget k x hx; omega
  · exact absurd (hget k x hx).1 hk

section
variable {g : Nat → Own} {D : Nat → Prop} {p mb : Nat} {ib nb : Int → Nat} {T : TrM}
set_option maxHeartbeats 1000000 in
/-- Drop that is refused. -/
theorem drop_err (id : Int) (hd : dropE T id ≠ 0) (w : World) (h : TreeAt g D w p mb ib nb T) (hid : (Lit.int .i64 id).wf = true) :
    Calls Tryz.prog 99 #[ptr p, .int .i64 id] w (Turn g D w p mb (dropM T id).2 (.int .i64 (dropM T id).1)) := by
  have HH := Lib.hid h
  have hcb : (w.alloc (.cells #[.int .i64 id] 3)).cell? ⟨w.heap.size, 0, none⟩ = some (.int .i64 id) := slice_cell
  have hA := h.below (wall w (.cells #[.int .i64 id] 3)) (Nat.le_refl _)
  by_cases hf : fileE T id = 0
  · obtain ⟨x, hx, hk⟩ := fileE_zero hf
    have HF := Lib.hid (file_ok id hx hk _ hA hid)
    obtain ⟨c0, c1, c2, c3, c4, c5, c7, hiw⟩ := (h.item id x hx).cell
    have hE : dropE T id = if x.closed then 27 else 0 := by unfold dropE; rw [hx]; simp only [if_neg hk]
    cases hcl : x.closed with
    | false => exact absurd (by rw [hE, hcl]; rfl) hd
    | true =>
      have HM : Hid (dropM T id = (27, T)) := by
        unfold dropM
        rw [hE, hcl]; simp only [if_pos]; exact rfl
      rw [hcl] at c5
      clear hE hcl hx hk hf h c7 hA hd
      go_enter Tryz.func99, Tryz.ntmps99
      go_wp2_with fail
      (with_reducible refine HF.out.mono ?_)
      rintro e w1 ⟨rfl, rfl⟩
      go_wp2_with fail
      go_ret
      rw [HM.out]
      exact Turn.same HH.out (wall w _) rfl
  · have hne : (fileE T id == 0) = false := by simpa using hf
    have HF := Lib.hid (file_err id _ rfl hf _ hA hid)
    have HM : Hid (dropM T id = (fileE T id, T)) := by
      unfold dropM
      rw [dropE_err hf, if_neg hf]; exact rfl
    obtain ⟨k, hk⟩ : ∃ k, k = fileE T id := ⟨_, rfl⟩
    rw [← hk] at HF hne HM
    clear hf h hk hA hd
    go_enter Tryz.func99, Tryz.ntmps99
    go_wp2_with fail
    (with_reducible refine HF.out.mono ?_)
    rintro e w1 ⟨rfl, rfl⟩
    go_wp2_with fail
    go_ret
    rw [HM.out]
    exact Turn.same HH.out (wall w _) rfl
end
end Go.Proofs.YtpgklnhkfgbpgaaGreatDoor
