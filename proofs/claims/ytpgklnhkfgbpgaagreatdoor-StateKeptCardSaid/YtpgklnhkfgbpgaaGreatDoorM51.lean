/- (*tree.Tree).names. What the law asks of Names, plainly. A law's own tree: Look, Unlink, Rmdir, Rename, Drop, List. (*tree.Tree).Names. -/
import Derived.Test.YtpgklnhkfgbpgaaGreatDoorM49
import Derived.Test.YtpgklnhkfgbpgaaGreatDoorM17
import Derived.Deep.CutBlock
import Derived.Deep.DeepCutAuto
import Derived.Test.YtpgklnhkfgbpgaaGreatDoorM34
import Derived.Test.YtpgklnhkfgbpgaaGreatDoorM23
import Derived.Test.YtpgklnhkfgbpgaaGreatDoorM20
import Derived.Test.YtpgklnhkfgbpgaaGreatDoorM50
namespace Go.Proofs.YtpgklnhkfgbpgaaGreatDoor
open Go.ChangeShapes Go.WideShapes Go.ChangeAt Go.RowKit
set_option linter.unusedVariables false
set_option linter.unusedSimpArgs false

theorem infoStrN : (Tryz.prog.info? 9).map (fun i => (i.zero, i.size, i.bytes)) = some (some (.string ByteArray.empty), 1, 16) := by kernel_rfl
theorem infoStrsN : (Tryz.prog.info? 28).map (fun i => (i.zero, i.size, i.bytes)) = some (some (.slice none 0 0), 1, 24) := by kernel_rfl
section
variable {g : Nat → Own} {D : Nat → Prop} {p mb : Nat} {ib nb : Int → Nat} {T : TrM}
def NamesAt (p B : Nat) (w : World) (id a : Int) (u v : Value) (m : Nat) (xs : List Value) (L : List (List Nm)) : Prop :=
  Calls Tryz.prog 72 #[ptr p, .int .i64 id, .int .i64 a, u, v] w fun e w' => ∃ v', e = .returned v' ∧ NamesRel B w v m xs L v' w'
theorem goodL_len {n : Nm} (h : goodL n = true) : n.length ≤ 16 := by
  unfold goodL at h
  simp only [Bool.and_eq_true, decide_eq_true_eq] at h
  exact h.1.1.2
/-- The node itself. -/
def selfP (id a : Int) (q : List Nm) : List (List Nm) := if a = id then [q] else []
/-- While names runs. -/
def NamesLoop (B : Nat) (w : World) (v : Value) (m : Nat) (xs : List Value) (S : List (List Nm)) (L : Nm × Int → List (List Nm)) (x : ItM) (nbk r : Nat) (v1 : Value) (wr : World) : Prop :=
  ∃ left cnt, NamesRel B w v m xs (S ++ (doneN left x.names).flatMap L) v1 wr ∧ RangeAt strK wr nbk r (nameL x) left cnt ∧ v1.ownBlock ≠ some r
/-- A path that is longer by one name. -/
theorem path_more {w w1 w2 : World} {cv v' : Value} {q : List Nm} {k : Nm} {o : Obj} {V : Value} (hV : ∀ b, V.ownBlock = some b → b < w.heap.size) (hB1 : Below w.heap.size w w1) (hq : ∀ n ∈ q ++ [k], n.length ≤ maxLen)
    (hown : w2.ownsRow w.heap.size 9 1 v' (q.length + 1) ((q.map strOf).map .string ++ [.string (strOf k)])) (hg : (w1.alloc o).grownBy w2 cv.ownBlock) (hcv : ∀ b, cv.ownBlock = some b → w.heap.size ≤ b) :
    Below w.heap.size w w2 ∧ PathV (fun b => V.ownBlock ≠ some b) w2 v' (q ++ [k]) := by
  have hs1 := hB1.size
  have hs2 := hg.size
  have hsa : (w1.alloc o).heap.size = w1.heap.size + 1 := by simp
  refine ⟨⟨hg.os.trans hB1.os, hg.tape.trans hB1.tape, hg.output.trans hB1.output, by omega, fun b hb => ?_⟩, ?_⟩
  · refine (hg.block b (by omega) (fun e => ?_)).trans (((MapKept.heap_alloc w1 o).2 b (by omega)).trans (hB1.block b hb))
    have := hcv b e.symm
    omega
  · have h1 : w2.ownsRow w.heap.size 9 1 v' (q.length + 1) (((q ++ [k]).map strOf).map .string) := by simpa using hown
    exact (PathV.of_own h1 hq).weak fun b _ hb he => by have := hV b he; omega
set_option maxHeartbeats 4000000 in
theorem names_step_dir (B : Nat) (id a : Int) (x : ItM) (q : List Nm) (L : Nm × Int → List (List Nm)) (w : World) (u v : Value) (m : Nat) (xs : List Value) (h : TreeAt g D w p mb ib nb T) (hT : OkM T) (hx : aget a T = some x) (hk : x.kind = 2) (hBw : B ≤ w.heap.size) (hB : ∀ b, g b ≠ .none ∨ D b → b < B)
    (hv : w.ownsRow B 28 1 v m xs) (hu : PathV (fun b => v.ownBlock ≠ some b) w u q) (hq : ∀ k ∈ q, k.length ≤ 16) (hql : q.length ≤ 64) (hm : m + (selfP id a q ++ x.names.flatMap L).length ≤ 1000)
    (hc : ∀ e ∈ x.names, ∀ w1 u1 v1 m1 xs1, TreeAt g D w1 p mb ib nb T → B ≤ w1.heap.size → w1.ownsRow B 28 1 v1 m1 xs1 → PathV (fun b => v1.ownBlock ≠ some b) w1 u1 (q ++ [e.1]) → m1 + (L e).length ≤ 1000 → NamesAt p B w1 id e.2 u1 v1 m1 xs1 (L e)) :
    NamesAt p B w id a u v m xs (selfP id a q ++ x.names.flatMap L) := by
  obtain ⟨S, hself⟩ : ∃ S, S = selfP id a q := ⟨_, rfl⟩
  rw [← hself] at hm ⊢
  obtain ⟨hc0, hpw, hmw⟩ := h.cell
  have hids := hT.ids a x hx
  have hok : intK.ok a := okInt hids.1 (by omega)
  have hget : aget a (T.map fun q => (q.1, ptr (ib q.1))) = some (ptr (ib a)) := by rw [aget_ptr, hx]; rfl
  have HG := Lib.hid hget
  have HC := Lib.hid hc
  have O1 := Lib.hid (hT.each a x hx)
  have HX := Lib.hid hx
  have HT := Lib.hid hT
  have HTR := Lib.hid h
  have HBB := Lib.hid hB
  have HV := Lib.hid hv
  have HU := Lib.hid hu
  have HQ := Lib.hid hq
  have HQM := Lib.hid (show ∀ k ∈ q, k.length ≤ maxLen from fun k hk => by have := hq k hk; unfold maxLen; omega)
  have HVL := Lib.hid (own_lt hv)
  have hml := hm
  rw [List.length_append] at hml
  have HS := Lib.hid hself
  obtain ⟨au, cu, rfl, hcu, hst⟩ := hu
  have HST := Lib.hid hst
  have HK := Lib.hid hk
  obtain ⟨Ts, hi⟩ := info_parts infoStrN
  have HI := Lib.hid hi
  obtain ⟨Tl, hil⟩ := info_parts infoStrsN
  have HIL := Lib.hid hil
  clear hx hT h hB hv hq hst hget hc hself hk hi hil hc0
  unfold NamesAt
  go_enter Tryz.func72, Tryz.ntmps72
  go_upto_if 15 with (fail)
  go_cut [4] (fun v1 wx => NamesRel B w v m xs S v1 wx)
  case first =>
    by_cases ha : a = id
    · have ha' : (a == id) = true := by simpa using ha
      have hS : S = [q] := by rw [HS.out]; exact if_pos ha
      have HCL := Lib.hid (cloneO_any au q.length cu (q.map strOf) w HST.out (by omega))
      rw [hS] at hml
      clear ha
      go_wp2_with fail
      (with_reducible refine HCL.out.mono ?_)
      rintro e w1 ⟨cv, rfl, hcv, hB1⟩
      obtain ⟨ac, cc, rfl, hcc⟩ := own_form hcv
      have HCV := Lib.hid hcv
      have HB1 := Lib.hid hB1
      have hs1 := hB1.size
      clear hcv hB1 HCL
      go_wp2_with (at_builtin; refine wpList_append_row rfl _ _ 62 rfl B 28 _ (.slice none 0 0) 24 Tryz.underlying62 HIL.out.1 HIL.out.2.1 HIL.out.2.2.1 HIL.out.2.2.2 rfl v m xs rfl (own_keep HV.out fun b hb hbw => ((MapKept.heap_alloc w1 _).2 b (by omega)).trans (HB1.out.block b hbw)) (some ⟨w1.heap.size, 0, none⟩) 1 1 [.slice ac q.length cc] rfl (one_row _ _) (by simp [Value.oneCell']) (by unfold maxLen; simp at hml; omega) (by simp at hml; omega) (by simp; omega) ?_; intro A1 k1 w2 hown2 hgrow2 _ hat2)
      have HREL := NamesRel.push HV.out HB1.out HCV.out HQM.out hown2 hgrow2 hat2
      go_meet
      rw [hS]
      exact HREL
    · have ha' : (a == id) = false := by simpa using ha
      have hS : S = [] := by rw [HS.out]; exact if_neg ha
      clear ha
      go_wp2_with fail
      go_meet
      rw [hS]
      exact NamesRel.refl HV.out
  case rest =>
    have HREL := Lib.hid hcut
    have hK1 := hcut.keeps.size
    have h1 := hcut.tree HV.out HTR.out HBB.out
    obtain ⟨w1, hw1⟩ : ∃ w1 : World, w1 = wc := ⟨_, rfl⟩
    rw [← hw1] at HREL hK1 h1 ⊢
    clear hw1 hcut
    obtain ⟨hc0, hpw1, hmw1⟩ := h1.cell
    obtain ⟨c0, c1, c2, c3, c4, c5, c7, hiw⟩ := (h1.item a x HX.out).cell
    have HMAP := Lib.hid h1.map
    have e2 : namesV x (nb a) = .map (some (nb a)) := if_pos HK.out
    rw [e2] at c7
    have HN := Lib.hid ((h1.item a x HX.out).names HK.out)
    have hbw := HN.out.lt
    have hnbB : nb a < B := HBB.out (nb a) (.inl (by rw [h1.tagn a x HX.out HK.out]; simp))
    clear h1 e2
    go_wp2_with (first | (at_lookup; refine wpList_look intK rfl _ _ 98 91 rfl Tryz.underlying98 (Tryz.zeroItem _) rfl HMAP.out a rfl hok ?_; rw [HG.out]) | (at_range; refine wpList_range strK rfl _ 95 3 rfl Tryz.underlying95 rfl HN.out ?_; intro w0 hR0 hB0 hs0))
    go_frame
    go_loopw [4] (fun v2 wr => NamesLoop B w v m xs S L x (nb a) w1.heap.size v2 wr) (fun _ wr => wr.rangeLeft (nb a) w1.heap.size)
    case atStart =>
      refine ⟨_, _, ?_, hR0, fun he => ?_⟩
      · have hD : doneN (fun k => (aget k (nameL x)).isSome) x.names = [] := doneN_none fun e he => by rw [aget_nameL, aget_of_mem bbLt O1.out.sorted he]; rfl
        rw [hD]
        simpa using HREL.out.below hB0
      · obtain ⟨m9, xs9, _, ho9, _⟩ := HREL.out.own
        have := own_lt ho9 _ he
        omega
    case round =>
      obtain ⟨left, cnt, hrel', hR, hne⟩ := hrel
      have HREL2 := Lib.hid hrel'
      have HR := Lib.hid hR
      have HNE := Lib.hid hne
      clear hrel' hR hne
      go_wp2_with (first | (at_next; refine wpList_next strK rfl _ rfl rfl HR.out ?_ ?_))
      · intro hdone
        have HDN := Lib.hid hdone
        clear hdone
        go_wp2
        go_ret
        refine ⟨_, rfl, ?_⟩
        have := HREL2.out
        rw [doneN_all HDN.out] at this
        exact this
      · intro k v3 w3 cnt1 hokk hleft hg2 hR1 hlt hK1' hs1 hen
        rw [aget_nameL] at hg2
        cases hk2 : aget k x.names with
        | none => rw [hk2] at hg2; cases hg2
        | some j =>
          rw [hk2] at hg2
          cases hg2
          have hmem := aget_mem hk2
          have hrw := HR.out.lt
          have hrel3 := HREL2.out.iter hK1' HR.out.nocell (by omega) HNE.out
          have HREL3 := Lib.hid hrel3
          have HP3 := Lib.hid (hrel3.path HU.out)
          obtain ⟨au3, cu3, he3, hcu3, hst3⟩ := HP3.out
          simp only [Value.slice.injEq, true_and] at he3
          obtain ⟨rfl, rfl⟩ := he3
          have HCL := Lib.hid (cloneO_any au q.length cu (q.map strOf) w3 hst3 (by omega))
          have hsz3 := hrel3.keeps.size
          have HPERM := Lib.hid (doneN_step (O1.out.sorted.apart bbLt) hmem hleft)
          have HTR3 := Lib.hid (hrel3.tree HV.out HTR.out HBB.out)
          have hlm := done_len L (fun z => left z && !decide (z = k)) x.names
          rw [(HPERM.out.flatMap_right L).length_eq, List.flatMap_append, List.length_append] at hlm
          simp only [List.flatMap_cons, List.flatMap_nil, List.append_nil] at hlm
          have HGN := Lib.hid ((O1.out).good _ hmem)
          have HMEM := Lib.hid hmem
          have HR1 := Lib.hid hR1
          have HLT := Lib.hid hlt
          clear hk2 hmem hR1 hlt hK1' hrel3 hst3 hleft
          show wpList _ _ _ _ _ _
          have e3 : strK.val k = .string (strOf k) := rfl
          rw [e3] at hen ⊢
          clear e3
          go_wp2_with fail
          (with_reducible refine HCL.out.mono ?_)
          rintro e w4 ⟨cv, rfl, hcv, hB4⟩
          obtain ⟨ac, cc, rfl, hcc⟩ := own_form hcv
          have HCV := Lib.hid hcv
          have HB4 := Lib.hid hB4
          have hs4 := hB4.size
          clear hcv hB4 HCL
          go_wp2_with (at_builtin; refine wpList_append_row rfl _ _ 28 rfl w3.heap.size 9 _ (.string ByteArray.empty) 16 Tryz.underlying28 HI.out.1 HI.out.2.1 HI.out.2.2.1 HI.out.2.2.2 rfl (.slice ac q.length cc) q.length ((q.map strOf).map .string) rfl (own_keep HCV.out fun b hb hbw => (MapKept.heap_alloc w4 _).2 b hbw) (some ⟨w4.heap.size, 0, none⟩) 1 1 [.string (strOf k)] rfl (one_row _ _) (by simp [Value.oneCell']) (by unfold maxLen; omega) (by omega) (by simp; omega) ?_; intro A5 k5 w5 hown5 hgrow5 _ _)
          have hcvb := own_block_ge HCV.out
          obtain ⟨hB5, hP5⟩ := path_more (V := u4) (fun b hb => own_lt (HREL3.out.own).choose_spec.choose_spec.2.1 b hb) HB4.out (fun n hn => by
            rcases List.mem_append.1 hn with h1 | h1
            · exact HQM.out n h1
            · obtain rfl : n = k := by simpa using h1
              have := goodL_len HGN.out
              unfold maxLen; omega) hown5 hgrow5 hcvb
          have hs5 := hB5.size
          have hrel5 := HREL3.out.below hB5
          obtain ⟨m5, xs5, hm5, ho5, htr⟩ := hrel5.own
          have HTRN := Lib.hid htr
          have h5 := hrel5.tree HV.out HTR.out HBB.out
          rw [List.length_append] at hm5
          have HCH := Lib.hid (HC.out (k, j) HMEM.out w5 (.slice A5 (q.length + 1) k5) u4 m5 xs5 h5 (by omega) ho5 hP5 (by omega))
          have HO5 := Lib.hid ho5
          have HB5 := Lib.hid hB5
          clear h5 htr hrel5 ho5 hown5 hgrow5 hP5 hB5 hcvb
          have HCH2 := Lib.hid (show Calls Tryz.prog 72 #[ptr p, .int .i64 id, .int .i64 j, .slice A5 (q.length + 1) k5, u4] w5 _ from HCH.out)
          (with_reducible refine HCH2.out.mono ?_)
          rintro e w6 ⟨v6, rfl, hrel6⟩
          have HREL6 := Lib.hid hrel6
          have HK6 := Lib.hid hrel6.keeps
          clear hrel6
          go_wp2_with fail
          have hkeep : ∀ b, b < w3.heap.size → u4.ownBlock ≠ some b → w6.heap[b]? = w3.heap[b]? := fun b hb hn => (HK6.out.block b (by omega) hn).trans (HB5.out.block b hb)
          have hR1w := HR1.out.lt
          have hkn := hkeep (nb a) hR1w.1 (fun he => by have := own_block_ge HO5.out _ he; omega)
          have hkr := hkeep w1.heap.size hR1w.2.1 HNE.out
          go_roundw
          case rel =>
            refine ⟨_, cnt1, (HTRN.out _ _ _ HREL6.out).perm ?_, HR1.out.kept hkn hkr, fun he => ?_⟩
            · have hp := HPERM.out.flatMap_right L
              rw [List.flatMap_append] at hp
              simp only [List.flatMap_cons, List.flatMap_nil, List.append_nil] at hp
              rw [List.append_assoc]
              exact hp.symm.append_left S
            · rcases HREL6.out.new _ he with h1 | h1
              · exact HNE.out h1
              · omega
          case measure =>
            have h4 : RangeAt strK w6 (nb a) w1.heap.size (nameL x) _ cnt1 := HR1.out.kept hkn hkr
            rw [h4.measure, HR.out.measure]
            exact HLT.out
set_option maxHeartbeats 4000000 in
theorem names_step_file (B : Nat) (id a : Int) (x : ItM) (q : List Nm) (L : Nm × Int → List (List Nm)) (w : World) (u v : Value) (m : Nat) (xs : List Value) (h : TreeAt g D w p mb ib nb T) (hT : OkM T) (hx : aget a T = some x) (hk : ¬ x.kind = 2) (hBw : B ≤ w.heap.size) (hB : ∀ b, g b ≠ .none ∨ D b → b < B)
    (hv : w.ownsRow B 28 1 v m xs) (hu : PathV (fun b => v.ownBlock ≠ some b) w u q) (hq : ∀ k ∈ q, k.length ≤ 16) (hql : q.length ≤ 64) (hm : m + (selfP id a q ++ x.names.flatMap L).length ≤ 1000)
    (hc : ∀ e ∈ x.names, ∀ w1 u1 v1 m1 xs1, TreeAt g D w1 p mb ib nb T → B ≤ w1.heap.size → w1.ownsRow B 28 1 v1 m1 xs1 → PathV (fun b => v1.ownBlock ≠ some b) w1 u1 (q ++ [e.1]) → m1 + (L e).length ≤ 1000 → NamesAt p B w1 id e.2 u1 v1 m1 xs1 (L e)) :
    NamesAt p B w id a u v m xs (selfP id a q ++ x.names.flatMap L) := by
  obtain ⟨S, hself⟩ : ∃ S, S = selfP id a q := ⟨_, rfl⟩
  rw [← hself] at hm ⊢
  obtain ⟨hc0, hpw, hmw⟩ := h.cell
  have hids := hT.ids a x hx
  have hok : intK.ok a := okInt hids.1 (by omega)
  have hget : aget a (T.map fun q => (q.1, ptr (ib q.1))) = some (ptr (ib a)) := by rw [aget_ptr, hx]; rfl
  have HG := Lib.hid hget
  have HC := Lib.hid hc
  have O1 := Lib.hid (hT.each a x hx)
  have HX := Lib.hid hx
  have HT := Lib.hid hT
  have HTR := Lib.hid h
  have HBB := Lib.hid hB
  have HV := Lib.hid hv
  have HU := Lib.hid hu
  have HQ := Lib.hid hq
  have HQM := Lib.hid (show ∀ k ∈ q, k.length ≤ maxLen from fun k hk => by have := hq k hk; unfold maxLen; omega)
  have HVL := Lib.hid (own_lt hv)
  have hml := hm
  rw [List.length_append] at hml
  have HS := Lib.hid hself
  obtain ⟨au, cu, rfl, hcu, hst⟩ := hu
  have HST := Lib.hid hst
  have HK := Lib.hid hk
  obtain ⟨Ts, hi⟩ := info_parts infoStrN
  have HI := Lib.hid hi
  obtain ⟨Tl, hil⟩ := info_parts infoStrsN
  have HIL := Lib.hid hil
  clear hx hT h hB hv hq hst hget hc hself hk hi hil hc0
  unfold NamesAt
  go_enter Tryz.func72, Tryz.ntmps72
  go_upto_if 15 with (fail)
  go_cut [4] (fun v1 wx => NamesRel B w v m xs S v1 wx)
  case first =>
    by_cases ha : a = id
    · have ha' : (a == id) = true := by simpa using ha
      have hS : S = [q] := by rw [HS.out]; exact if_pos ha
      have HCL := Lib.hid (cloneO_any au q.length cu (q.map strOf) w HST.out (by omega))
      rw [hS] at hml
      clear ha
      go_wp2_with fail
      (with_reducible refine HCL.out.mono ?_)
      rintro e w1 ⟨cv, rfl, hcv, hB1⟩
      obtain ⟨ac, cc, rfl, hcc⟩ := own_form hcv
      have HCV := Lib.hid hcv
      have HB1 := Lib.hid hB1
      have hs1 := hB1.size
      clear hcv hB1 HCL
      go_wp2_with (at_builtin; refine wpList_append_row rfl _ _ 62 rfl B 28 _ (.slice none 0 0) 24 Tryz.underlying62 HIL.out.1 HIL.out.2.1 HIL.out.2.2.1 HIL.out.2.2.2 rfl v m xs rfl (own_keep HV.out fun b hb hbw => ((MapKept.heap_alloc w1 _).2 b (by omega)).trans (HB1.out.block b hbw)) (some ⟨w1.heap.size, 0, none⟩) 1 1 [.slice ac q.length cc] rfl (one_row _ _) (by simp [Value.oneCell']) (by unfold maxLen; simp at hml; omega) (by simp at hml; omega) (by simp; omega) ?_; intro A1 k1 w2 hown2 hgrow2 _ hat2)
      have HREL := NamesRel.push HV.out HB1.out HCV.out HQM.out hown2 hgrow2 hat2
      go_meet
      rw [hS]
      exact HREL
    · have ha' : (a == id) = false := by simpa using ha
      have hS : S = [] := by rw [HS.out]; exact if_neg ha
      clear ha
      go_wp2_with fail
      go_meet
      rw [hS]
      exact NamesRel.refl HV.out
  case rest =>
    have HREL := Lib.hid hcut
    have hK1 := hcut.keeps.size
    have h1 := hcut.tree HV.out HTR.out HBB.out
    obtain ⟨w1, hw1⟩ : ∃ w1 : World, w1 = wc := ⟨_, rfl⟩
    rw [← hw1] at HREL hK1 h1 ⊢
    clear hw1 hcut
    obtain ⟨hc0, hpw1, hmw1⟩ := h1.cell
    obtain ⟨c0, c1, c2, c3, c4, c5, c7, hiw⟩ := (h1.item a x HX.out).cell
    have HMAP := Lib.hid h1.map
    have e2 : namesV x (nb a) = .map none := if_neg HK.out
    rw [e2] at c7
    have HNIL := Lib.hid (O1.out.file (O1.out.kind.resolve_right HK.out))
    clear h1 e2
    go_wp2_with (first | (at_lookup; refine wpList_look intK rfl _ _ 98 91 rfl Tryz.underlying98 (Tryz.zeroItem _) rfl HMAP.out a rfl hok ?_; rw [HG.out]) | (at_range; refine wpList_range_nil rfl _ 95 9 3 rfl Tryz.underlying95 rfl ?_))
    go_frame
    go_loopw [4] (fun v2 wr => NamesRel B w v m xs S v2 wr ∧ wr.heap[w1.heap.size]? = some (.mapIter none 0 #[] 0)) (fun _ wr => 0)
    case atStart => exact ⟨HREL.out.below (wall w1 _), (MapKept.heap_alloc w1 _).1⟩
    case round =>
      obtain ⟨hr, hit⟩ := hrel
      have HRR := Lib.hid hr
      clear hr
      go_wp2_with (first | (at_next; refine wpList_next_nil rfl _ rfl rfl hit ?_))
      go_ret
      refine ⟨_, rfl, ?_⟩
      rw [HNIL.out]
      simpa using HRR.out
/-- names, from a node that is no deeper than so many. -/
theorem treeNames_any (hT : OkM T) : ∀ (n B : Nat) (id a : Int) (q : List Nm) (w : World) (u v : Value) (m : Nat) (xs : List Value), TreeAt g D w p mb ib nb T → (aget a T).isSome = true → Shal T n a → B ≤ w.heap.size → (∀ b, g b ≠ .none ∨ D b → b < B) →
    w.ownsRow B 28 1 v m xs → PathV (fun b => v.ownBlock ≠ some b) w u q → (∀ k ∈ q, k.length ≤ 16) → q.length + n ≤ 64 → m + (pathsM T id n a q).length ≤ 1000 → NamesAt p B w id a u v m xs (pathsM T id n a q)
  | 0, B, id, a, q, w, u, v, m, xs, h, ha, hs, hBw, hB, hv, hu, hq, hql, hm => by
    obtain ⟨x, hx⟩ := Option.isSome_iff_exists.1 ha
    have e : x.names = [] := by have h1 : namesM T a = [] := hs; rw [namesM_of hx] at h1; exact h1
    have e2 : pathsM T id 0 a q = selfP id a q ++ x.names.flatMap fun _ => [] := by rw [e]; simp [pathsM, selfP]
    rw [e2] at hm ⊢
    have hc : ∀ e ∈ x.names, ∀ w1 u1 v1 m1 xs1, TreeAt g D w1 p mb ib nb T → B ≤ w1.heap.size → w1.ownsRow B 28 1 v1 m1 xs1 → PathV (fun b => v1.ownBlock ≠ some b) w1 u1 (q ++ [e.1]) → m1 + ([] : List (List Nm)).length ≤ 1000 → NamesAt p B w1 id e.2 u1 v1 m1 xs1 [] := fun y hy => by rw [e] at hy; cases hy
    by_cases hk : x.kind = 2
    · exact names_step_dir B id a x q (fun _ => []) w u v m xs h hT hx hk hBw hB hv hu hq (by omega) hm hc
    · exact names_step_file B id a x q (fun _ => []) w u v m xs h hT hx hk hBw hB hv hu hq (by omega) hm hc
  | n + 1, B, id, a, q, w, u, v, m, xs, h, ha, hs, hBw, hB, hv, hu, hq, hql, hm => by
    obtain ⟨x, hx⟩ := Option.isSome_iff_exists.1 ha
    have e := namesM_of hx
    have e2 : pathsM T id (n + 1) a q = selfP id a q ++ x.names.flatMap fun e => pathsM T id n e.2 (q ++ [e.1]) := by rw [← e]; rfl
    rw [e2] at hm ⊢
    have hc : ∀ e ∈ x.names, ∀ w1 u1 v1 m1 xs1, TreeAt g D w1 p mb ib nb T → B ≤ w1.heap.size → w1.ownsRow B 28 1 v1 m1 xs1 → PathV (fun b => v1.ownBlock ≠ some b) w1 u1 (q ++ [e.1]) → m1 + (pathsM T id n e.2 (q ++ [e.1])).length ≤ 1000 → NamesAt p B w1 id e.2 u1 v1 m1 xs1 (pathsM T id n e.2 (q ++ [e.1])) := fun y hy w1 u1 v1 m1 xs1 h1 h2 h3 h4 h5 =>
      treeNames_any hT n B id y.2 (q ++ [y.1]) w1 u1 v1 m1 xs1 h1 (hT.leads a x hx y hy).1 (hs y (by rw [e]; exact hy)) h2 hB h3 h4 (fun k hk => by
        rcases List.mem_append.1 hk with h6 | h6
        · exact hq k h6
        · obtain rfl : k = y.1 := by simpa using h6
          exact goodL_len ((hT.each a x hx).good y hy)) (by simp; omega) h5
    by_cases hk : x.kind = 2
    · exact names_step_dir B id a x q _ w u v m xs h hT hx hk hBw hB hv hu hq (by omega) hm hc
    · exact names_step_file B id a x q _ w u v m xs h hT hx hk hBw hB hv hu hq (by omega) hm hc
end
end Go.Proofs.YtpgklnhkfgbpgaaGreatDoor
namespace Go.Proofs.YtpgklnhkfgbpgaaGreatDoor
open Go.ChangeShapes Go.WideShapes Go.ChangeAt Go.RowKit
set_option linter.unusedVariables false
set_option linter.unusedSimpArgs false

/-- All names of a node. -/
def allP (T : TrM) (id : Int) : List (List Nm) := pathsM T id 8 0 []
theorem mem_allP {T : TrM} (hO : Okay T) {id : Int} {q : List Nm} : q ∈ allP T id ↔ lookM T 0 q = (id, 0) := by
  obtain ⟨hT, dep, hd⟩ := hO
  unfold allP
  rw [mem_paths hT 8 0 [] q (root_there hT) (hd.shal8 hT 0)]
  constructor
  · rintro ⟨s, h1, h2⟩
    rw [List.nil_append] at h1
    rw [h1]
    exact h2
  · exact fun h => ⟨q, rfl, h⟩
/-- A path that leads somewhere is no longer than it may be, and its names are good. -/
theorem look_good {T : TrM} {dep : Int → Nat} (hT : OkM T) (hd : DepthOk T dep) : ∀ (q : List Nm) (a id : Int), lookM T a q = (id, 0) → (∀ n ∈ q, goodL n = true) ∧ (q ≠ [] → dep a + q.length ≤ 8)
  | [], a, id, h => ⟨fun n hn => by simp at hn, fun h => absurd rfl h⟩
  | m :: r, a, id, h => by
    obtain ⟨x, k, hx, hk, hn, hr⟩ := look_cons h
    have hm := aget_mem hn
    have hu := hd.up a x hx _ hm
    obtain ⟨h1, h2⟩ := look_good hT hd r k id hr
    refine ⟨fun n hn' => ?_, fun _ => ?_⟩
    · rcases List.mem_cons.1 hn' with rfl | h3
      · exact (hT.each a x hx).good _ hm
      · exact h1 n h3
    · cases r with
      | nil => simp only [List.length_cons, List.length_nil]; omega
      | cons m' r' =>
        have h3 := h2 (by simp)
        obtain ⟨y, k', hy, hk', _, _⟩ := look_cons hr
        have := hu.2 ((kindM_of hy).trans hk')
        simp only at this
        simp only [List.length_cons] at h3 ⊢
        omega
theorem look_fine {T : TrM} (hO : Okay T) {q : List Nm} {id : Int} (h : lookM T 0 q = (id, 0)) : q.length ≤ 8 ∧ (∀ n ∈ q, goodL n = true) ∧ fineL q = 0 ∧ lookE T q = (id, 0) := by
  obtain ⟨hT, dep, hd⟩ := hO
  obtain ⟨h1, h2⟩ := look_good hT hd q 0 id h
  have hl : q.length ≤ 8 := by
    by_cases hq : q = []
    · rw [hq]; decide
    · have := h2 hq; omega
  have hf : fineL q = 0 := by
    unfold fineL
    have ha : q.any (fun x => !goodL x) = false := by
      rw [List.any_eq_false]
      intro x hx
      rw [h1 x hx]
      decide
    rw [ha]
    simp only [Bool.false_eq_true, if_false]
    rw [if_neg (by omega)]
  refine ⟨hl, h1, hf, ?_⟩
  unfold lookE
  rw [if_neg (by simp [hf])]
  exact h
theorem look_root {T : TrM} (hT : OkM T) : ∀ (q : List Nm) (a : Int), lookM T a q = (0, 0) → q ≠ [] → False
  | [], a, h, hq => hq rfl
  | m :: r, a, h, _ => by
    obtain ⟨x, k, hx, hk, hn, hr⟩ := look_cons h
    have hl := hT.leads a x hx _ (aget_mem hn)
    cases r with
    | nil =>
      have : k = 0 := congrArg Prod.fst hr
      exact hl.2 this
    | cons m' r' => exact look_root hT _ k hr (by simp)
theorem allP_root {T : TrM} (hO : Okay T) : allP T 0 = [[]] := by
  have hnd : (allP T 0).Nodup := paths_nodup hO.1 8 0 []
  have h0 : ([] : List Nm) ∈ allP T 0 := (mem_allP hO).2 rfl
  have hall : ∀ q ∈ allP T 0, q = [] := fun q hq => by
    by_cases hq0 : q = []
    · exact hq0
    · exact (look_root hO.1 q 0 ((mem_allP hO).1 hq) hq0).elim
  generalize allP T 0 = l at hnd h0 hall
  match l, hnd, h0, hall with
  | [q], _, _, hall => rw [hall q (by simp)]
  | q :: q' :: r, hnd, _, hall =>
    have h1 := hall q (by simp)
    have h2 := hall q' (by simp)
    rw [h1, h2] at hnd
    simp at hnd
theorem allP_len {T : TrM} (hO : Okay T) {id : Int} {x : ItM} (hx : aget id T = some x) : ((allP T id).length : Int) = if id = 0 then 1 else x.links := by
  by_cases h0 : id = 0
  · rw [if_pos h0, h0, allP_root hO]; rfl
  · rw [if_neg h0, ← hO.1.counts id x hx h0]
    unfold allP
    rw [paths_count hO h0]
theorem allP_links {T : TrM} (hO : Okay T) {id : Int} {x : ItM} (hx : aget id T = some x) : ((allP T id).length : Int) = x.links := by
  rw [allP_len hO hx]
  by_cases h0 : id = 0
  · rw [if_pos h0]
    have hr := hO.1.root
    rw [← h0, kindM_of hx] at hr
    rw [((hO.1.each id x hx).dir hr).1]
  · rw [if_neg h0]
theorem allP_none {T : TrM} (hO : Okay T) {id : Int} (hx : aget id T = none) : allP T id = [] := by
  rw [List.eq_nil_iff_forall_not_mem]
  intro q hq
  have hl := (mem_allP hO).1 hq
  have := lookM_there hO.1 q 0 (root_there hO.1) (by rw [hl])
  rw [hl, hx] at this
  cases this
theorem allP_le {T : TrM} (hO : Okay T) (id : Int) : (allP T id).length ≤ 64 := by
  cases hx : aget id T with
  | none => rw [allP_none hO hx]; simp
  | some x =>
    have h1 := allP_links hO hx
    have h2 := (hO.1.each id x hx).links
    omega
end Go.Proofs.YtpgklnhkfgbpgaaGreatDoor
namespace Go.Proofs.YtpgklnhkfgbpgaaGreatDoor
open Go.ChangeShapes Go.WideShapes Go.ChangeAt Go.RowKit
set_option linter.unusedVariables false
set_option linter.unusedSimpArgs false
section
variable {W w : World} {P : Nat → Prop} {p : Nat} {T : TrM}
end
end Go.Proofs.YtpgklnhkfgbpgaaGreatDoor
namespace Go.Proofs.YtpgklnhkfgbpgaaGreatDoor
open Go.ChangeShapes Go.WideShapes Go.ChangeAt Go.RowKit
set_option linter.unusedVariables false
set_option linter.unusedSimpArgs false

/-- New paths, in some order. -/
def NewPaths (w : World) (L : List (List Nm)) (e : Ending) (w' : World) : Prop :=
  ∃ a c vals l, e = .returned (.slice a l.length c) ∧ l.length ≤ c ∧ l.Perm L ∧ PathVs (fun b => w.heap.size ≤ b ∧ b < w'.heap.size) w' vals l ∧ RowAt (fun b => w.heap.size ≤ b ∧ b < w'.heap.size) w' a l.length vals ∧ Below w.heap.size w w'
theorem allP_small {T : TrM} (hO : Okay T) {id : Int} {q : List Nm} (h : q ∈ allP T id) : Small q := by
  obtain ⟨h1, h2, _, _⟩ := look_fine hO ((mem_allP hO).1 h)
  exact ⟨by omega, fun n hn => goodL_len (h2 n hn)⟩
section
variable {W w : World} {P : Nat → Prop} {p : Nat} {T : TrM}
set_option maxHeartbeats 2000000 in
theorem in_names (h : TreeIn W P w p T) (hO : Okay T) (id : Int) : Calls Tryz.prog 32 #[ptr p, .int .i64 id] w (NewPaths w (allP T id)) := by
  obtain ⟨g, D, mb, ib, nb, hA, hF⟩ := h.at_
  have hO2 := hO
  obtain ⟨hT, dep, hd⟩ := hO2
  have hle := allP_le hO id
  have HN := Lib.hid (treeNames_any hT 8 w.heap.size id 0 [] w (.slice none 0 0) (.slice none 0 0) 0 [] hA (root_there hT) (hd.shal8 hT 0) (Nat.le_refl _) (fun b hb => hb.elim (hA.low b) (hA.dlow b)) ⟨rfl, .inl ⟨rfl, rfl⟩⟩ (pathV_nil _ _) (fun k hk => by simp at hk) (by simp) (by have h9 : (pathsM T id 8 0 []).length ≤ 64 := hle; omega))
  have HSM : Hid (∀ q ∈ allP T id, Small q) := fun q hq => allP_small hO hq
  obtain ⟨L, hL⟩ : ∃ L, L = allP T id := ⟨_, rfl⟩
  change Hid (NamesAt p w.heap.size w id 0 _ _ 0 [] (allP T id)) at HN
  rw [← hL] at HN HSM ⊢
  rw [← hL] at hle
  have HN2 : Hid (Calls Tryz.prog 72 #[ptr p, .int .i64 id, .int .i64 0, .slice none 0 0, .slice none 0 0] w fun e w' => ∃ v', e = .returned v' ∧ NamesRel w.heap.size w (.slice none 0 0) 0 [] L v' w') := HN.out
  clear hL hA hF hT hd h hO HN
  go_enter Tryz.func32, Tryz.ntmps32
  go_wp2_with fail
  (with_reducible refine HN2.out.mono ?_)
  rintro e w1 ⟨v1, rfl, vals, l, hp, ho, hv, hK, hb⟩
  have hB1 : Below w.heap.size w w1 := hK.to_below (Nat.le_refl _) fun x _ hx => by cases hx
  have hs1 := hB1.size
  rw [Nat.zero_add, List.nil_append] at ho
  have hlen : l.length ≤ 64 := by rw [hp.length_eq]; exact hle
  have hsm : ∀ q ∈ l, Small q := fun q hq => HSM.out q (hp.mem_iff.1 hq)
  have hform := ho.2
  rcases hform with ⟨hv0, hn0⟩ | ⟨gb, cap, cur, hv0, hg, _, hcap, _, _⟩
  · subst hv0
    have HV := Lib.hid hv
    have HP := Lib.hid hp
    have HO := Lib.hid ho
    have HB1 := Lib.hid hB1
    obtain ⟨hvl, hvv⟩ := hv
    obtain rfl : l = [] := List.eq_nil_of_length_eq_zero hn0
    obtain rfl : vals = [] := List.eq_nil_of_length_eq_zero hvl
    clear ho hp hB1 hvl hvv hb hsm hK HN2
    go_wp2_with fail
    (with_reducible refine (sort_none _ _).mono ?_)
    rintro e w2 ⟨rfl, rfl⟩
    go_wp2_with fail
    go_ret
    exact ⟨none, 0, [], [], rfl, Nat.le_refl _, HP.out, ⟨rfl, fun i q hq => by simp at hq⟩, RowAt.nil _ _ _, HB1.out⟩
  · subst hv0
    have HSN := Lib.hid (sort_names (S := fun b => w.heap.size ≤ b) w1 gb l.length cap vals l (by omega) ho (hv.move (Nat.le_refl _) fun b hb hbw => ⟨⟨fun he => hb.2.2 (by rw [he]; rfl), hb.1⟩, rfl⟩) hsm)
    have HV := Lib.hid hv
    have HP := Lib.hid hp
    have HB1 := Lib.hid hB1
    have hgw := own_lt ho gb rfl
    clear ho hp hB1 hb hsm hK HN2 hv
    obtain ⟨n, hn⟩ : ∃ n, n = l.length := ⟨_, rfl⟩
    have HNN := Lib.hid hn
    rw [← hn] at HSN hcap hlen ⊢
    clear hn
    go_wp2_with fail
    (with_reducible refine HSN.out.mono ?_)
    rintro e w2 ⟨rfl, vals', l', hp', hv', hr', hK'⟩
    have HV2 := Lib.hid hv'
    have HP2 := Lib.hid hp'
    have HR2 := Lib.hid hr'
    have HK2 := Lib.hid hK'
    clear hv' hp' hr' hK'
    go_wp2_with fail
    go_ret
    have hs2 := HK2.out.size
    have hln : l'.length = n := by rw [HNN.out]; exact HP2.out.length_eq
    refine ⟨some ⟨gb, 0, none⟩, cap, vals', l', by rw [hln]; rfl, by omega, HP2.out.trans HP.out, ?_, ?_, ?_⟩
    · exact HV2.out.move (Nat.le_refl _) fun b hb hbw => ⟨⟨hb.2.2, hbw⟩, rfl⟩
    · rw [hln]
      exact HR2.out.move (Nat.le_refl _) fun b hb hbw => ⟨⟨by rw [hb]; exact hg, hbw⟩, rfl⟩
    · exact HB1.out.trans (HK2.out.to_below HB1.out.size fun x hx he => by rw [he] at hx; omega)
end
end Go.Proofs.YtpgklnhkfgbpgaaGreatDoor
