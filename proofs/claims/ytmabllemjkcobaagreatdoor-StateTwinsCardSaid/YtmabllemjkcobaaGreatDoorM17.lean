/- tree: Look, Unlink, Rmdir. tree: deep. -/
import Derived.Test.YtmabllemjkcobaaGreatDoorM16
namespace Go.Proofs.YtmabllemjkcobaaGreatDoor
open Go.ChangeShapes Go.WideShapes Go.ChangeAt Go.RowKit
set_option linter.unusedVariables false
set_option linter.unusedSimpArgs false

section
variable {g : Nat → Own} {D : Nat → Prop} {p mb : Nat} {ib nb : Int → Nat} {T : TrM}
set_option maxHeartbeats 2000000 in
theorem Look_at {S : Nat → Prop} (a : Option Addr) (n c : Nat) (ls : List Nm) (w : World) (h : TreeAt g D w p mb ib nb T) (hT : OkM T) (hS : StrsAt S w a n (ls.map strOf)) :
    Calls Tryz.prog 97 #[ptr p, .slice a n c] w fun e w' => e = .returned (.tuple #[.int .i64 (lookE T ls).1, .int .i64 (lookE T ls).2]) ∧ Below w.heap.size w w' := by
  have HF := Lib.hid (fine1_at (S := S) a n c ls w hS)
  have HLK := Lib.hid (fun w1 (hb : Below w.heap.size w w1) => look_any a n c ls w1 (h.below hb (Nat.le_refl _)) hT (hS.below hb (Nat.le_refl _)))
  clear h hT hS
  by_cases hf : fineL ls = 0
  · have HE : Hid (lookE T ls = lookM T 0 ls) := by unfold lookE; rw [if_neg (by rw [hf]; simp)]; exact rfl
    rw [hf] at HF
    clear hf
    go_enter Tryz.func97, Tryz.ntmps97
    go_wp2_with fail
    (with_reducible refine HF.out.mono ?_)
    rintro e w1 ⟨rfl, hb1⟩
    have HB1 := Lib.hid hb1
    clear hb1
    go_wp2_with fail
    (with_reducible refine (HLK.out w1 HB1.out).mono ?_)
    rintro e w2 ⟨rfl, rfl⟩
    go_wp2_with fail
    go_ret2
    rw [HE.out]
    exact ⟨rfl, HB1.out⟩
  · have HE : Hid (lookE T ls = (0, fineL ls)) := by unfold lookE; rw [if_pos hf]; exact rfl
    have hne : (fineL ls == 0) = false := by simpa using hf
    have hne2 : (fineL ls != 0) = true := by simpa using hf
    clear hf
    go_enter Tryz.func97, Tryz.ntmps97
    go_wp2_with fail
    (with_reducible refine HF.out.mono ?_)
    rintro e w1 ⟨rfl, hb1⟩
    have HB1 := Lib.hid hb1
    clear hb1
    go_wp2_with fail
    go_ret2
    rw [HE.out]
    exact ⟨rfl, HB1.out⟩

theorem place_ok {S : Nat → Prop} {d : Int} {nm : Nm} (a : Option Addr) (n c : Nat) (ls : List Nm) (w : World) (h : TreeAt g D w p mb ib nb T) (hT : OkM T) (hS : StrsAt S w a n (ls.map strOf)) (hc : n ≤ c) (hn8 : n ≤ 1000000) (hp : placeM T ls = (d, nm, 0)) :
    Calls Tryz.prog 60 #[ptr p, .slice a n c] w fun e w' => e = .returned (.tuple #[ptr (ib d), .string (strOf nm), .int .i64 0]) ∧ Below w.heap.size w w' := by
  have := place_any a n c ls w h hT hS hc hn8
  unfold RetPlace at this
  rw [hp] at this
  exact this
theorem dirs_cell {w : World} {d : Int} {x : ItM} (h : TreeAt g D w p mb ib nb T) (hx : aget d T = some x) (hk : x.kind = 2) : w.cell? ⟨ib d, 7, none⟩ = some (.map (some (nb d))) ∧ MapAt strK w (nb d) (nameL x) := by
  have hi := h.item d x hx
  obtain ⟨_, _, _, _, _, _, c7, _⟩ := hi.cell
  unfold namesV at c7
  rw [if_pos hk] at c7
  exact ⟨c7, hi.names hk⟩
theorem okNm {nm : Nm} (h : goodL nm = true) : strK.ok nm := by
  have := good_len nm h
  show nm.length ≤ maxLen
  unfold maxLen; omega
/-- A name is cut, and the world is as it was but for that. -/
theorem cut_at {w w' : World} {d : Int} {x : ItM} {n : Nm} (h : TreeAt g D w p mb ib nb T) (hx : aget d T = some x) (hk : x.kind = 2) (hM : MapAt strK w' (nb d) (adel n (nameL x))) (hT : w.mapTurned w' (nb d)) : TreeAt g D w' p mb ib nb (cutName T d n) ∧ Keeps (fun b => g b ≠ .none) w w' :=
  ⟨h.cut hx hk hM hT, (turned_keeps hT).mono fun b _ hb => by rw [show b = nb d from hb, h.tagn d x hx hk]; simp⟩
theorem below_keeps {w w' : World} {fp : Nat → Prop} (hb : Below w.heap.size w w') : Keeps fp w w' := (Keeps.below hb).mono fun b hb hb' => absurd hb (by omega)

set_option maxRecDepth 100000 in
set_option maxHeartbeats 8000000 in
theorem unlink_at {S : Nat → Prop} (a : Option Addr) (n c : Nat) (ls : List Nm) (w : World) (h : TreeAt g D w p mb ib nb T) (hT : OkM T) (hS : StrsAt S w a n (ls.map strOf)) (hc : n ≤ c) (hn8 : n ≤ 1000000) :
    Calls Tryz.prog 107 #[ptr p, .slice a n c] w (Turn g D w p mb (unlinkM T ls).2 (.int .i64 (unlinkM T ls).1)) := by
  have HH := Lib.hid h
  have HT := Lib.hid hT
  have HS := Lib.hid hS
  have HF := Lib.hid (fine1_at (S := S) a n c ls w hS)
  have HLK := Lib.hid (fun w1 (hb : Below w.heap.size w w1) => look_any a n c ls w1 (h.below hb (Nat.le_refl _)) hT (hS.below hb (Nat.le_refl _)))
  clear h hT hS
  by_cases hf : fineL ls = 0
  · have HFL := Lib.hid hf
    rw [hf] at HF
    clear hf
    have HLE : Hid (lookE T ls = lookM T 0 ls) := by unfold lookE; rw [if_neg (by rw [HFL.out]; simp)]; exact rfl
    obtain ⟨⟨id, e0⟩, hq⟩ : ∃ q, q = lookM T 0 ls := ⟨_, rfl⟩
    have HQ := Lib.hid hq
    rw [← hq] at HLK HLE
    clear hq
    by_cases he : e0 = 0
    · subst he
      obtain ⟨y, hy⟩ := Option.isSome_iff_exists.1 (lookM_zero HQ.out.symm HT.out)
      have HY := Lib.hid hy
      have hids := HT.out.ids id y hy
      have hok : intK.ok id := okInt hids.1 (by omega)
      have HG : Hid (aget id (T.map fun q => (q.1, ptr (ib q.1))) = some (ptr (ib id))) := by rw [aget_ptr, hy]; rfl
      have HIT : Hid (∀ w1, Below w.heap.size w w1 → w1.cell? ⟨p, 0, none⟩ = some (.map (some mb)) ∧ MapAt intK w1 mb (T.map fun q => (q.1, ptr (ib q.1))) ∧ w1.cell? ⟨ib id, 1, none⟩ = some (.int .i64 y.kind)) := fun w1 hb => by
        have h2 := HH.out.below hb (Nat.le_refl _)
        obtain ⟨_, c1, c2, _⟩ := (h2.item id y HY.out).cell
        exact ⟨h2.cell.1, h2.map, c1⟩
      clear hy
      by_cases hk : y.kind = 2
      · have HM : Hid (unlinkM T ls = (22, T)) := by
          have : unlinkE T ls = 22 := by
            unfold unlinkE
            rw [HLE.out, ← HQ.out, if_neg (by simp), if_pos ((kindM_of HY.out).trans hk)]
          unfold unlinkM; rw [this] <;> exact rfl
        go_enter Tryz.func107, Tryz.ntmps107
        go_wp2_with fail
        (with_reducible refine HF.out.mono ?_)
        rintro e w1 ⟨rfl, hb1⟩
        have HB1 := Lib.hid hb1
        clear hb1
        go_wp2_with fail
        (with_reducible refine (HLK.out w1 HB1.out).mono ?_)
        rintro e w2 ⟨rfl, rfl⟩
        obtain ⟨c0, hmap, c1⟩ := HIT.out w1 HB1.out
        rw [hk] at c1
        have HMAP := Lib.hid hmap
        clear hmap
        go_wp2_with (first | (at_lookup; refine wpList_look intK rfl _ _ 95 88 rfl Tryz.underlying95 (Tryz.zeroItem _) rfl HMAP.out id rfl hok ?_; rw [HG.out]))
        go_ret
        rw [HM.out]
        exact Turn.same HH.out HB1.out rfl
      · have hkk : (y.kind == 2) = false := by simpa using hk
        have hp : ls ≠ [] := fun e => by
          have h1 : id = 0 := congrArg Prod.fst (HQ.out.trans (by rw [e] <;> exact (rfl : lookM T 0 [] = (0, 0))))
          have := HT.out.root
          rw [← h1, kindM_of HY.out] at this
          exact hk this
        obtain ⟨d, x, nm, e1, -, hx, hxk, hn, hmem, -⟩ := place_of_look HQ.out.symm hp
        have HGN := Lib.hid (fineL_good HFL.out _ hmem)
        have hokn := okNm HGN.out
        have HM : Hid (unlinkM T ls = (0, settleM (amod id (fun x => { x with links := x.links - 1 }) (cutName T d nm)) id)) := by
          have : unlinkE T ls = 0 := by
            unfold unlinkE
            rw [HLE.out, ← HQ.out, if_neg (by simp), if_neg (by rw [kindM_of HY.out]; exact hk)]
          unfold unlinkM unlinkOk; rw [this, ← HQ.out, e1]; exact rfl
        have HPL := Lib.hid (fun w1 (hb : Below w.heap.size w w1) => place_ok a n c ls w1 (HH.out.below hb (Nat.le_refl _)) HT.out (HS.out.below hb (Nat.le_refl _)) hc hn8 e1)
        have HX := Lib.hid hx
        have HXK := Lib.hid hxk
        have hdi : id ≠ d := fun e => by subst e; rw [HY.out] at hx; cases hx; exact hk hxk
        have HDI := Lib.hid hdi
        have HCELL := Lib.hid (fun w2 (hb : Below w.heap.size w w2) => dirs_cell (HH.out.below hb (Nat.le_refl _)) hx hxk)
        have HWID : Hid ((Lit.int .i64 id).wf = true) := hok
        have hln := (HT.out.each id y HY.out).links
        clear hk hp e1 hx hxk hn hmem hdi
        go_enter Tryz.func107, Tryz.ntmps107
        go_wp2_with fail
        (with_reducible refine HF.out.mono ?_)
        rintro e w1 ⟨rfl, hb1⟩
        have HB1 := Lib.hid hb1
        clear hb1
        go_wp2_with fail
        (with_reducible refine (HLK.out w1 HB1.out).mono ?_)
        rintro e w2 ⟨rfl, rfl⟩
        obtain ⟨c0, hmap, c1⟩ := HIT.out w1 HB1.out
        have HMAP := Lib.hid hmap
        clear hmap
        go_wp2_with (first | (at_lookup; refine wpList_look intK rfl _ _ 95 88 rfl Tryz.underlying95 (Tryz.zeroItem _) rfl HMAP.out id rfl hok ?_; rw [HG.out]))
        (with_reducible refine (HPL.out w1 HB1.out).mono ?_)
        rintro e w2 ⟨rfl, hb2⟩
        have HB2 := Lib.hid (HB1.out.trans (hb2.mono HB1.out.size))
        clear hb2
        obtain ⟨d7, hnames⟩ := HCELL.out w2 HB2.out
        have HNM := Lib.hid hnames
        have HA2 := Lib.hid (HH.out.below HB2.out (Nat.le_refl _))
        clear hnames
        have HCUT : Hid (∀ w3, MapAt strK w3 (nb d) (adel nm (nameL x)) → w2.mapTurned w3 (nb d) → (TreeAt g D w3 p mb ib nb (cutName T d nm) ∧ Keeps (fun b => g b ≠ .none) w2 w3) ∧ aget id (cutName T d nm) = some y ∧ w3.cell? ⟨ib id, 2, none⟩ = some (.int .i64 y.links) ∧ w3.frozen? ⟨ib id, 2, none⟩ = false) := fun w3 hM hTu => by
          have h3 := cut_at HA2.out HX.out HXK.out hM hTu
          have hy3 : aget id (cutName T d nm) = some y := by unfold cutName; rw [aget_amod, if_neg HDI.out]; exact HY.out
          exact ⟨h3, hy3, (h3.1.item id y hy3).cell.2.2.1, (h3.1.item id y hy3).frozen 2⟩
        go_wp2_with (at_delete; refine wpList_delete strK rfl _ _ 92 3 rfl Tryz.underlying92 rfl HNM.out nm rfl hokn ?_; intro w3 hM3 hT3; obtain ⟨hA3, hy3, g2, gf2⟩ := HCUT.out w3 hM3 hT3; have HA3 := Lib.hid hA3; have HY3 := Lib.hid hy3; clear hA3 hM3 hT3 hy3)
        have hA3 := HA3.out
        have hgi := HH.out.tagi id y HY.out
        have hA4 : TreeAt g D (w3.setCell ⟨ib id, 2, none⟩ (.int .i64 (y.links - 1))) p mb ib nb (amod id (fun x => { x with links := x.links - 1 }) (cutName T d nm)) :=
          hA3.1.fields HY3.out (fun x => { x with links := x.links - 1 }) rfl rfl rfl (Keeps.set_ w3 ⟨ib id, 2, none⟩ _) (by rw [size_set]) fun a c hc => by rw [heap_set_same hc]; rfl
        have hy4 : aget id (amod id (fun x => { x with links := x.links - 1 }) (cutName T d nm)) = some { y with links := y.links - 1 } := by rw [aget_amod, if_pos rfl, HY3.out]; rfl
        have HK4 : Hid (Keeps (fun b => g b ≠ .none) w (w3.setCell ⟨ib id, 2, none⟩ (.int .i64 (y.links - 1)))) :=
          ((below_keeps HB2.out).trans hA3.2 (fun _ _ h => h)).trans ((Keeps.set_ w3 ⟨ib id, 2, none⟩ _).mono fun b _ hb => by rw [show b = ib id from hb, hgi]; simp) (fun _ _ h => h)
        have HSET := Lib.hid (settle_any id hy4 HWID.out _ hA4)
        have HGM := Lib.hid HH.out.tagm
        clear hA3 hgi hA4 hy4
        (with_reducible refine HSET.out.mono ?_)
        rintro e w5 ⟨rfl, hA5, hK5, _⟩
        have HA5 := Lib.hid hA5
        have HK5 := Lib.hid hK5
        clear hA5 hK5
        go_wp2_with fail
        go_ret
        rw [HM.out]
        exact Turn.of rfl HA5.out (HK4.out.trans (HK5.out.mono fun b _ hb => by rw [show b = mb from hb, HGM.out]; simp) (fun _ _ h => h))
    · have hne : (e0 == 0) = false := by simpa using he
      have hne2 : (e0 != 0) = true := by simpa using he
      have HM : Hid (unlinkM T ls = (e0, T)) := by
        have : unlinkE T ls = e0 := by
          unfold unlinkE
          rw [HLE.out, if_pos he]
        unfold unlinkM; rw [this, if_neg he]; exact rfl
      clear he
      go_enter Tryz.func107, Tryz.ntmps107
      go_wp2_with fail
      (with_reducible refine HF.out.mono ?_)
      rintro e w1 ⟨rfl, hb1⟩
      have HB1 := Lib.hid hb1
      clear hb1
      go_wp2_with fail
      (with_reducible refine (HLK.out w1 HB1.out).mono ?_)
      rintro e w2 ⟨rfl, rfl⟩
      go_wp2_with fail
      go_ret
      rw [HM.out]
      exact Turn.same HH.out HB1.out rfl
  · have HM : Hid (unlinkM T ls = (fineL ls, T)) := by
      have : unlinkE T ls = fineL ls := by unfold unlinkE lookE; rw [if_pos hf, if_pos hf]
      unfold unlinkM; rw [this, if_neg hf]; exact rfl
    have hne : (fineL ls == 0) = false := by simpa using hf
    have hne2 : (fineL ls != 0) = true := by simpa using hf
    clear hf
    go_enter Tryz.func107, Tryz.ntmps107
    go_wp2_with fail
    (with_reducible refine HF.out.mono ?_)
    rintro e w1 ⟨rfl, hb1⟩
    go_wp2_with fail
    go_ret
    rw [HM.out]
    exact Turn.same HH.out hb1 rfl
set_option maxRecDepth 100000 in
set_option maxHeartbeats 8000000 in
theorem rmdir_at {S : Nat → Prop} (a : Option Addr) (n c : Nat) (ls : List Nm) (w : World) (h : TreeAt g D w p mb ib nb T) (hT : OkM T) (hS : StrsAt S w a n (ls.map strOf)) (hc : n ≤ c) (hn8 : n ≤ 1000000) :
    Calls Tryz.prog 45 #[ptr p, .slice a n c] w (Turn g D w p mb (rmdirM T ls).2 (.int .i64 (rmdirM T ls).1)) := by
  have HH := Lib.hid h
  have HT := Lib.hid hT
  have HS := Lib.hid hS
  have HF := Lib.hid (fine1_at (S := S) a n c ls w hS)
  have HLK := Lib.hid (fun w1 (hb : Below w.heap.size w w1) => look_any a n c ls w1 (h.below hb (Nat.le_refl _)) hT (hS.below hb (Nat.le_refl _)))
  clear h hT hS
  by_cases hf : fineL ls = 0
  · have HFL := Lib.hid hf
    rw [hf] at HF
    clear hf
    have HLE : Hid (lookE T ls = lookM T 0 ls) := by unfold lookE; rw [if_neg (by rw [HFL.out]; simp)]; exact rfl
    obtain ⟨⟨id, e0⟩, hq⟩ : ∃ q, q = lookM T 0 ls := ⟨_, rfl⟩
    have HQ := Lib.hid hq
    rw [← hq] at HLK HLE
    clear hq
    by_cases he : e0 = 0
    · subst he
      obtain ⟨y, hy⟩ := Option.isSome_iff_exists.1 (lookM_zero HQ.out.symm HT.out)
      have HY := Lib.hid hy
      have hids := HT.out.ids id y hy
      have hok : intK.ok id := okInt hids.1 (by omega)
      have HG : Hid (aget id (T.map fun q => (q.1, ptr (ib q.1))) = some (ptr (ib id))) := by rw [aget_ptr, hy]; rfl
      have HIT : Hid (∀ w1, Below w.heap.size w w1 → w1.cell? ⟨p, 0, none⟩ = some (.map (some mb)) ∧ MapAt intK w1 mb (T.map fun q => (q.1, ptr (ib q.1))) ∧ w1.cell? ⟨ib id, 1, none⟩ = some (.int .i64 y.kind)) := fun w1 hb => by
        have h2 := HH.out.below hb (Nat.le_refl _)
        obtain ⟨_, c1, c2, _⟩ := (h2.item id y HY.out).cell
        exact ⟨h2.cell.1, h2.map, c1⟩
      clear hy
      by_cases hk : y.kind = 2
      · rw [hk] at HIT
        have HYK := Lib.hid hk
        clear hk
        by_cases h0 : id = 0
        · have HM : Hid (rmdirM T ls = (1, T)) := by
            have : rmdirE T ls = 1 := by
              unfold rmdirE
              rw [HLE.out, ← HQ.out, if_neg (by simp), if_neg (by rw [kindM_of HY.out, HYK.out]; simp), if_pos h0]
            unfold rmdirM; rw [this] <;> exact rfl
          have hd0 : (id == 0) = true := by simpa using h0
          clear h0
          go_enter Tryz.func45, Tryz.ntmps45
          go_wp2_with fail
          (with_reducible refine HF.out.mono ?_)
          rintro e w1 ⟨rfl, hb1⟩
          have HB1 := Lib.hid hb1
          clear hb1
          go_wp2_with fail
          (with_reducible refine (HLK.out w1 HB1.out).mono ?_)
          rintro e w2 ⟨rfl, rfl⟩
          obtain ⟨c0, hmap, c1⟩ := HIT.out w1 HB1.out
          have HMAP := Lib.hid hmap
          clear hmap
          go_wp2_with (first | (at_lookup; refine wpList_look intK rfl _ _ 95 88 rfl Tryz.underlying95 (Tryz.zeroItem _) rfl HMAP.out id rfl hok ?_; rw [HG.out]))
          go_ret
          rw [HM.out]
          exact Turn.same HH.out HB1.out rfl
        · have hd0 : (id == 0) = false := by simpa using h0
          have HID0 := Lib.hid h0
          have HCELLY := Lib.hid (fun w2 (hb : Below w.heap.size w w2) => dirs_cell (HH.out.below hb (Nat.le_refl _)) HY.out HYK.out)
          have HNL : Hid ((nameL y).length = y.names.length) := by unfold nameL; rw [List.length_map] <;> exact rfl
          clear h0
          by_cases hfull : 0 < y.names.length
          · have HM : Hid (rmdirM T ls = (24, T)) := by
              have hnm : namesM T id = y.names := by unfold namesM; rw [HY.out]
              have : rmdirE T ls = 24 := by
                unfold rmdirE
                rw [HLE.out, ← HQ.out, if_neg (by simp), if_neg (by rw [kindM_of HY.out, HYK.out]; simp), if_neg HID0.out, hnm, if_pos hfull]
              unfold rmdirM; rw [this] <;> exact rfl
            have hd : decide ((0 : Int) < (y.names.length : Int)) = true := by simp; omega
            have hd2 : decide (0 < y.names.length) = true := by simpa using hfull
            go_enter Tryz.func45, Tryz.ntmps45
            go_wp2_with fail
            (with_reducible refine HF.out.mono ?_)
            rintro e w1 ⟨rfl, hb1⟩
            have HB1 := Lib.hid hb1
            clear hb1
            go_wp2_with fail
            (with_reducible refine (HLK.out w1 HB1.out).mono ?_)
            rintro e w2 ⟨rfl, rfl⟩
            obtain ⟨c0, hmap, c1⟩ := HIT.out w1 HB1.out
            have HMAP := Lib.hid hmap
            clear hmap
            obtain ⟨y7, hyn⟩ := HCELLY.out w1 HB1.out
            have HYN := Lib.hid hyn
            clear hyn
            go_wp2_with (first | (at_lookup; refine wpList_look intK rfl _ _ 95 88 rfl Tryz.underlying95 (Tryz.zeroItem _) rfl HMAP.out id rfl hok ?_; rw [HG.out]) | (at_len; refine wpList_mlen strK rfl _ 92 3 rfl Tryz.underlying92 rfl HYN.out ?_; rw [HNL.out]))
            go_ret
            rw [HM.out]
            exact Turn.same HH.out HB1.out rfl
          · have HNY : Hid (y.names = []) := by
              have : y.names = [] := List.eq_nil_of_length_eq_zero (by omega)
              exact this
            have hn0 : y.names.length = 0 := by omega
            have HN0 := Lib.hid hn0
            have hp : ls ≠ [] := fun e => by
              have h1 : id = 0 := congrArg Prod.fst (HQ.out.trans (by rw [e] <;> exact (rfl : lookM T 0 [] = (0, 0))))
              exact HID0.out h1
            obtain ⟨d, x, nm, e1, -, hx, hxk, hn, hmem, -⟩ := place_of_look HQ.out.symm hp
            have HGN := Lib.hid (fineL_good HFL.out _ hmem)
            have hokn := okNm HGN.out
            have HM : Hid (rmdirM T ls = (0, adel id (cutName T d nm))) := by
              have hnm : namesM T id = y.names := by unfold namesM; rw [HY.out]
              have : rmdirE T ls = 0 := by
                unfold rmdirE
                rw [HLE.out, ← HQ.out, if_neg (by simp), if_neg (by rw [kindM_of HY.out, HYK.out]; simp), if_neg HID0.out, hnm, if_neg (by omega)]
              unfold rmdirM rmdirOk; rw [this, ← HQ.out, e1] <;> exact rfl
            have HPL := Lib.hid (fun w1 (hb : Below w.heap.size w w1) => place_ok a n c ls w1 (HH.out.below hb (Nat.le_refl _)) HT.out (HS.out.below hb (Nat.le_refl _)) hc hn8 e1)
            have HX := Lib.hid hx
            have HXK := Lib.hid hxk
            have hdi : id ≠ d := fun e => by subst e; rw [HY.out] at hx; cases hx; rw [HNY.out] at hn; cases hn
            have HDI := Lib.hid hdi
            have HCELL := Lib.hid (fun w2 (hb : Below w.heap.size w w2) => dirs_cell (HH.out.below hb (Nat.le_refl _)) hx hxk)
            clear hp e1 hx hxk hn hmem hdi hfull hn0
            go_enter Tryz.func45, Tryz.ntmps45
            go_wp2_with fail
            (with_reducible refine HF.out.mono ?_)
            rintro e w1 ⟨rfl, hb1⟩
            have HB1 := Lib.hid hb1
            clear hb1
            go_wp2_with fail
            (with_reducible refine (HLK.out w1 HB1.out).mono ?_)
            rintro e w2 ⟨rfl, rfl⟩
            obtain ⟨c0, hmap, c1⟩ := HIT.out w1 HB1.out
            have HMAP := Lib.hid hmap
            clear hmap
            obtain ⟨y7, hyn⟩ := HCELLY.out w1 HB1.out
            have HYN := Lib.hid hyn
            clear hyn
            go_wp2_with (first | (at_lookup; refine wpList_look intK rfl _ _ 95 88 rfl Tryz.underlying95 (Tryz.zeroItem _) rfl HMAP.out id rfl hok ?_; rw [HG.out]) | (at_len; refine wpList_mlen strK rfl _ 92 3 rfl Tryz.underlying92 rfl HYN.out ?_; rw [HNL.out, HN0.out]))
            (with_reducible refine (HPL.out w1 HB1.out).mono ?_)
            rintro e w2 ⟨rfl, hb2⟩
            have HB2 := Lib.hid (HB1.out.trans (hb2.mono HB1.out.size))
            clear hb2
            obtain ⟨d7, hnames⟩ := HCELL.out w2 HB2.out
            have HNM := Lib.hid hnames
            have HA2 := Lib.hid (HH.out.below HB2.out (Nat.le_refl _))
            clear hnames
            have HCUT : Hid (∀ w3, MapAt strK w3 (nb d) (adel nm (nameL x)) → w2.mapTurned w3 (nb d) → (TreeAt g D w3 p mb ib nb (cutName T d nm) ∧ Keeps (fun b => g b ≠ .none) w2 w3) ∧ w3.cell? ⟨p, 0, none⟩ = some (.map (some mb)) ∧ MapAt intK w3 mb (T.map fun q => (q.1, ptr (ib q.1)))) := fun w3 hM hTu => by
              have h3 := cut_at HA2.out HX.out HXK.out hM hTu
              have hm := h3.1.map
              unfold cutName at hm
              rw [amod_keys _ _ _ (fun j => ptr (ib j))] at hm
              exact ⟨h3, h3.1.cell.1, hm⟩
            go_wp2_with (first | (at_delete; refine wpList_delete strK rfl _ _ 92 3 rfl Tryz.underlying92 rfl HNM.out nm rfl hokn ?_; intro w3 hM3 hT3; obtain ⟨hA3, hp3, hm3⟩ := HCUT.out w3 hM3 hT3; have HA3 := Lib.hid hA3; have HM3 := Lib.hid hm3; clear hA3 hM3 hT3 hm3) | (at_delete; refine wpList_delete intK rfl _ _ 95 88 rfl Tryz.underlying95 rfl HM3.out id rfl hok ?_; intro w4 hM4 hT4; have HM4 := Lib.hid hM4; have HT4 := Lib.hid hT4; clear hM4 hT4))
            go_ret
            rw [HM.out]
            have hA3 := HA3.out
            have hsz := turned_size HT4.out
            have hA4 : TreeAt g D w4 p mb ib nb (adel id (cutName T d nm)) := by
              refine hA3.1.del ?_ (by omega) (fun b hb hbm => turned_below HT4.out b hb hbm)
              unfold cutName
              rw [amod_keys _ _ _ (fun j => ptr (ib j))]
              exact HM4.out
            have hgm := HH.out.tagm
            exact Turn.of rfl hA4 (((below_keeps HB2.out).trans hA3.2 (fun _ _ h => h)).trans ((turned_keeps HT4.out).mono fun b _ hb => by rw [show b = mb from hb, hgm]; simp) (fun _ _ h => h))
      · have hkk : (y.kind == 2) = false := by simpa using hk
        have HM : Hid (rmdirM T ls = (23, T)) := by
          have : rmdirE T ls = 23 := by
            unfold rmdirE
            rw [HLE.out, ← HQ.out, if_neg (by simp), if_pos (by rw [kindM_of HY.out]; exact hk)]
          unfold rmdirM; rw [this] <;> exact rfl
        go_enter Tryz.func45, Tryz.ntmps45
        go_wp2_with fail
        (with_reducible refine HF.out.mono ?_)
        rintro e w1 ⟨rfl, hb1⟩
        have HB1 := Lib.hid hb1
        clear hb1
        go_wp2_with fail
        (with_reducible refine (HLK.out w1 HB1.out).mono ?_)
        rintro e w2 ⟨rfl, rfl⟩
        obtain ⟨c0, hmap, c1⟩ := HIT.out w1 HB1.out
        have HMAP := Lib.hid hmap
        clear hmap
        go_wp2_with (first | (at_lookup; refine wpList_look intK rfl _ _ 95 88 rfl Tryz.underlying95 (Tryz.zeroItem _) rfl HMAP.out id rfl hok ?_; rw [HG.out]))
        go_ret
        rw [HM.out]
        exact Turn.same HH.out HB1.out rfl
    · have hne : (e0 == 0) = false := by simpa using he
      have hne2 : (e0 != 0) = true := by simpa using he
      have HM : Hid (rmdirM T ls = (e0, T)) := by
        have : rmdirE T ls = e0 := by
          unfold rmdirE
          rw [HLE.out, if_pos he]
        unfold rmdirM; rw [this, if_neg he]; exact rfl
      clear he
      go_enter Tryz.func45, Tryz.ntmps45
      go_wp2_with fail
      (with_reducible refine HF.out.mono ?_)
      rintro e w1 ⟨rfl, hb1⟩
      have HB1 := Lib.hid hb1
      clear hb1
      go_wp2_with fail
      (with_reducible refine (HLK.out w1 HB1.out).mono ?_)
      rintro e w2 ⟨rfl, rfl⟩
      go_wp2_with fail
      go_ret
      rw [HM.out]
      exact Turn.same HH.out HB1.out rfl
  · have HM : Hid (rmdirM T ls = (fineL ls, T)) := by
      have : rmdirE T ls = fineL ls := by unfold rmdirE lookE; rw [if_pos hf, if_pos hf]
      unfold rmdirM; rw [this, if_neg hf]; exact rfl
    have hne : (fineL ls == 0) = false := by simpa using hf
    have hne2 : (fineL ls != 0) = true := by simpa using hf
    clear hf
    go_enter Tryz.func45, Tryz.ntmps45
    go_wp2_with fail
    (with_reducible refine HF.out.mono ?_)
    rintro e w1 ⟨rfl, hb1⟩
    go_wp2_with fail
    go_ret
    rw [HM.out]
    exact Turn.same HH.out hb1 rfl
end
end Go.Proofs.YtmabllemjkcobaaGreatDoor
namespace Go.Proofs.YtmabllemjkcobaaGreatDoor
open Go.ChangeShapes Go.WideShapes Go.ChangeAt Go.RowKit
set_option linter.unusedVariables false
set_option linter.unusedSimpArgs false

/-- The most of these, and one. -/
def maxD (d : Int → Nat) (l : List (Nm × Int)) : Nat := (l.map fun e => 1 + d e.2).foldr Nat.max 0
theorem maxD_ge (d : Int → Nat) : ∀ {l : List (Nm × Int)} {e : Nm × Int}, e ∈ l → 1 + d e.2 ≤ maxD d l
  | x :: r, e, h => by
    have e1 : maxD d (x :: r) = Nat.max (1 + d x.2) (maxD d r) := rfl
    rw [e1]
    rcases List.mem_cons.1 h with rfl | h
    · exact Nat.le_max_left _ _
    · exact Nat.le_trans (maxD_ge d h) (Nat.le_max_right _ _)
theorem maxD_le (d : Int → Nat) {m : Nat} : ∀ {l : List (Nm × Int)}, (∀ e ∈ l, 1 + d e.2 ≤ m) → maxD d l ≤ m
  | [], _ => Nat.zero_le _
  | x :: r, h => by
    have e1 : maxD d (x :: r) = Nat.max (1 + d x.2) (maxD d r) := rfl
    rw [e1]
    exact Nat.max_le.2 ⟨h x (by simp), maxD_le d fun e he => h e (by simp [he])⟩
/-- How many names below a node lead deepest. -/
def deepM (T : TrM) : Nat → Int → Nat
  | 0, _ => 0
  | n + 1, id => maxD (deepM T n) (namesM T id)
/-- No more than so many. -/
def Shal (T : TrM) : Nat → Int → Prop
  | 0, id => namesM T id = []
  | n + 1, id => ∀ e ∈ namesM T id, Shal T n e.2
theorem Shal.le {T : TrM} : ∀ {n : Nat} {id : Int}, Shal T n id → deepM T n id ≤ n
  | 0, _, _ => Nat.le_refl _
  | n + 1, id, h => maxD_le _ fun e he => by have := (h e he).le; omega

section
variable {P : Program} {w : World} {ops : Array Oper} {rest : List Oper} {o : Oper} {a : Act} {Q : Exit → Act → World → Prop}
/-- A range over no map. -/
theorem wpList_range_nil (hg : o.guard = none) (m : Operand) (t k e : TypeId) (hop : o.op = Op.range t m) (ht : P.underlying t = some (.map k e)) (hm : a.eval m = .map none)
    (h : wpList P ops Q rest (a.put o.dst (.pointer (some ⟨w.heap.size, 0, none⟩))) (w.alloc (.mapIter none 0 #[] 0))) : wpList P ops Q (o :: rest) a w := by
  refine wpList_plain hg fun K' hK' => ?_
  have hrun : (Instr.range t (.map none)).run P w = .ok (.pointer (some ⟨w.heap.size, 0, none⟩)) (w.alloc (.mapIter none 0 #[] 0)) := by
    simp [Instr.range, run_underlying ht, Result.andThen]
  unfold Oper.wp
  simp [execOp, hop, hm, hrun, Result.andThen]
  exact hK' _ _ h
theorem wpList_next_nil (hg : o.guard = none) (it : Operand) (hop : o.op = Op.next it false) {r : Nat} (hit : a.eval it = .pointer (some ⟨r, 0, none⟩)) (hr : w.heap[r]? = some (.mapIter none 0 #[] 0))
    (h : wpList P ops Q rest (a.put o.dst (.tuple #[.bool false])) w) : wpList P ops Q (o :: rest) a w := by
  refine wpList_plain hg fun K' hK' => ?_
  have hrun : (Instr.next (.pointer (some ⟨r, 0, none⟩)) false o.type).run P w = .ok (.tuple #[.bool false]) w := by
    simp only [Instr.next, getObj, Sem.run_bind, Sem.run, hr, Result.andThen]
    rfl
  unfold Oper.wp
  simp [execOp, hop, hit, hrun, Result.andThen]
  exact hK' _ _ h
end

section
variable {g : Nat → Own} {D : Nat → Prop} {p mb : Nat} {ib nb : Int → Nat} {T : TrM}
def DeepAt (p : Nat) (w : World) (id : Int) (n : Nat) : Prop := Calls Tryz.prog 109 #[ptr p, .int .i64 id] w fun e w' => e = .returned (.int .i64 n) ∧ Below w.heap.size w w'
/-- While deep runs. -/
def DeepRel (w : World) (d : Int → Nat) (x : ItM) (nbk r : Nat) (v : Value) (wr : World) : Prop :=
  ∃ (m : Nat) (left : Nm → Bool) (cnt : Nat), v = .int .i64 m ∧ m ≤ maxD d x.names ∧ (∀ e ∈ x.names, left e.1 = false → 1 + d e.2 ≤ m) ∧ RangeAt strK wr nbk r (nameL x) left cnt ∧ Below w.heap.size w wr
set_option maxHeartbeats 1000000 in
theorem deep_step (id : Int) (x : ItM) (d : Int → Nat) (w : World) (h : TreeAt g D w p mb ib nb T) (hT : OkM T) (hx : aget id T = some x) (hd : ∀ e ∈ x.names, d e.2 ≤ 64)
    (hc : ∀ e ∈ x.names, ∀ w1, Below w.heap.size w w1 → DeepAt p w1 e.2 (d e.2)) : DeepAt p w id (maxD d x.names) := by
  obtain ⟨hc0, hpw, hmw⟩ := h.cell
  have hids := hT.ids id x hx
  have hok : intK.ok id := okInt hids.1 (by omega)
  obtain ⟨c0, c1, c2, c3, c4, c5, c7, hiw⟩ := (h.item id x hx).cell
  have hget : aget id (T.map fun q => (q.1, ptr (ib q.1))) = some (ptr (ib id)) := by rw [aget_ptr, hx]; rfl
  have HG := Lib.hid hget
  have HMAP := Lib.hid h.map
  have HC := Lib.hid hc
  have HD := Lib.hid hd
  have O1 := Lib.hid (hT.each id x hx)
  by_cases hk : x.kind = 2
  · have e2 : namesV x (nb id) = .map (some (nb id)) := if_pos hk
    rw [e2] at c7
    have HN := Lib.hid ((h.item id x hx).names hk)
    have hbw := HN.out.lt
    clear hget hc hd h hk e2 hT
    unfold DeepAt
    go_enter Tryz.func109, Tryz.ntmps109
    go_wp2_with (first | (at_lookup; refine wpList_look intK rfl _ _ 95 88 rfl Tryz.underlying95 (Tryz.zeroItem _) rfl HMAP.out id rfl hok ?_; rw [HG.out]) | (at_range; refine wpList_range strK rfl _ 92 3 rfl Tryz.underlying92 rfl HN.out ?_; intro w0 hR0 hB0 hs0))
    go_frame
    go_loopw [5, 7] (fun v _ wr => DeepRel w d x (nb id) w.heap.size v wr) (fun _ _ wr => wr.rangeLeft (nb id) w.heap.size)
    case atStart =>
      refine ⟨0, _, _, rfl, Nat.zero_le _, fun e he hl => ?_, hR0, hB0⟩
      simp only [aget_nameL] at hl
      rw [aget_of_mem bbLt O1.out.sorted he] at hl
      cases hl
    case round =>
      obtain ⟨m, left, cnt, rfl, hm, hsee, hR, hB⟩ := hrel
      have HB := Lib.hid hB
      have HSEE := Lib.hid hsee
      have HR := Lib.hid hR
      have hmd : maxD d x.names ≤ 65 := maxD_le d fun e he => by have := HD.out e he; omega
      clear hsee hR hB
      go_wp2_with (first | (at_next; refine wpList_next strK rfl _ rfl rfl HR.out ?_ ?_))
      · intro hdone
        have HDN := Lib.hid hdone
        clear hdone
        go_wp2
        go_ret
        refine ⟨ret_int ?_, HB.out⟩
        have : maxD d x.names ≤ m := maxD_le d fun e he => HSEE.out e he (HDN.out _)
        omega
      · intro k v w3 cnt1 hokk hleft hg2 hR1 hlt hK1 hs1 hen
        rw [aget_nameL] at hg2
        cases hk2 : aget k x.names with
        | none => rw [hk2] at hg2; cases hg2
        | some j =>
          rw [hk2] at hg2
          cases hg2
          have hmem := aget_mem hk2
          have hB3 : Below w.heap.size w w3 := ⟨hK1.os.trans HB.out.os, hK1.tape.trans HB.out.tape, hK1.output.trans HB.out.output, by rw [hs1]; exact HB.out.size, fun b hb => (hK1.block b (by have := HB.out.size; omega) (by omega)).trans (HB.out.block b hb)⟩
          have HCH := Lib.hid (HC.out _ hmem w3 hB3)
          have hdj := HD.out _ hmem
          have hjm := maxD_ge d hmem
          have HB3 := Lib.hid hB3
          have HR1 := Lib.hid hR1
          have HK2 := Lib.hid hk2
          have HLT := Lib.hid hlt
          simp only at hdj hjm
          have e1 : IntKind.i64.wrap (1 + (d j : Int)) = 1 + (d j : Int) := IntWalk.i64_in _ (by omega)
          have hrw := HR.out.lt
          clear hk2 hmem hR1 hB3 hlt hK1
          show wpList _ _ _ _ _ _
          have e3 : strK.val k = .string (strOf k) := rfl
          rw [e3] at hen ⊢
          clear e3
          have HCH2 := Lib.hid (show Calls Tryz.prog 109 #[ptr p, .int .i64 j] w3 _ from HCH.out)
          go_wp2_with fail
          (with_reducible refine HCH2.out.mono ?_)
          rintro e w4 ⟨rfl, hb4⟩
          have HB4 := Lib.hid hb4
          clear hb4
          go_wp2_with fail
          go_roundw
          case rel =>
            have hs4 := HB4.out.size
            refine ⟨Nat.max m (1 + d j), _, cnt1, ?_, Nat.max_le.2 ⟨hm, hjm⟩, fun e he hl => ?_, HR1.out.kept (HB4.out.block _ HR1.out.lt.1) (HB4.out.block _ HR1.out.lt.2.1), HB3.out.trans (HB4.out.mono HB3.out.size)⟩
            · congr 1
              show max (m : Int) (1 + (d j : Int)) = ((Nat.max m (1 + d j) : Nat) : Int)
              rcases Nat.le_total m (1 + d j) with h0 | h0
              · rw [show Nat.max m (1 + d j) = 1 + d j from Nat.max_eq_right h0]; omega
              · rw [show Nat.max m (1 + d j) = m from Nat.max_eq_left h0]; omega
            · by_cases hek : e.1 = k
              · have h1 := aget_of_mem bbLt O1.out.sorted he
                rw [hek, HK2.out] at h1
                have h2 : j = e.2 := Option.some.inj h1
                rw [← h2]
                exact Nat.le_max_right _ _
              · refine Nat.le_trans (HSEE.out e he ?_) (Nat.le_max_left _ _)
                simpa [hek] using hl
          case measure =>
            have h4 : RangeAt strK w4 (nb id) w.heap.size (nameL x) _ cnt1 := HR1.out.kept (HB4.out.block _ HR1.out.lt.1) (HB4.out.block _ HR1.out.lt.2.1)
            rw [h4.measure, HR.out.measure]
            exact HLT.out
  · have e2 : namesV x (nb id) = .map none := if_neg hk
    rw [e2] at c7
    have hnil : x.names = [] := O1.out.file (O1.out.kind.resolve_right hk)
    have HNIL := Lib.hid hnil
    clear hget hc hd h hk e2 hT hnil
    unfold DeepAt
    rw [HNIL.out]
    go_enter Tryz.func109, Tryz.ntmps109
    go_wp2_with (first | (at_lookup; refine wpList_look intK rfl _ _ 95 88 rfl Tryz.underlying95 (Tryz.zeroItem _) rfl HMAP.out id rfl hok ?_; rw [HG.out]) | (at_range; refine wpList_range_nil rfl _ 92 9 3 rfl Tryz.underlying92 rfl ?_))
    go_frame
    go_loopw [5, 7] (fun v _ wr => v = .int .i64 0 ∧ wr = w.alloc (.mapIter none 0 #[] 0)) (fun _ _ wr => 0)
    case atStart => exact ⟨rfl, rfl⟩
    case round =>
      obtain ⟨rfl, rfl⟩ := hrel
      go_wp2_with (first | (at_next; refine wpList_next_nil rfl _ rfl rfl (MapKept.heap_alloc w _).1 ?_))
      go_ret
      exact ⟨rfl, wall w _⟩
/-- deep, of what is no deeper than so many. -/
theorem deep_any (hT : OkM T) : ∀ (n : Nat) (id : Int) (w : World), TreeAt g D w p mb ib nb T → (aget id T).isSome = true → Shal T n id → n ≤ 64 → DeepAt p w id (deepM T n id)
  | 0, id, w, h, hi, hs, hn => by
    obtain ⟨x, hx⟩ := Option.isSome_iff_exists.1 hi
    have e : x.names = [] := by have h1 : namesM T id = [] := hs; unfold namesM at h1; rw [hx] at h1; exact h1
    have := deep_step id x (fun _ => 0) w h hT hx (fun _ _ => Nat.zero_le _) (fun y he => by rw [e] at he; cases he)
    rw [e] at this
    exact this
  | n + 1, id, w, h, hi, hs, hn => by
    obtain ⟨x, hx⟩ := Option.isSome_iff_exists.1 hi
    have e : namesM T id = x.names := by unfold namesM; rw [hx]
    have hs' : ∀ e ∈ x.names, Shal T n e.2 := fun y hy => hs y (by rw [e]; exact hy)
    have := deep_step id x (deepM T n) w h hT hx (fun y hy => Nat.le_trans (hs' y hy).le (by omega)) (fun y hy w1 hb =>
      deep_any hT n y.2 w1 (h.below hb (Nat.le_refl _)) (hT.leads id x hx y hy).1 (hs' y hy) (by omega))
    rw [← e] at this
    exact this
end
end Go.Proofs.YtmabllemjkcobaaGreatDoor
