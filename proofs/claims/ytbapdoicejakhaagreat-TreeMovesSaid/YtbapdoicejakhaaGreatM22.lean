/- (*tree.Tree).names. slices.Equal of texts; path.Within. -/
import Derived.Test.YtbapdoicejakhaaGreatM20
import Derived.Test.YtbapdoicejakhaaGreatM17
import Derived.Deep.CutBlock
import Derived.Deep.DeepCutAuto
import Derived.Test.YtbapdoicejakhaaGreatM09
namespace Go.Proofs.YtbapdoicejakhaaGreat
open Go.ChangeShapes Go.WideShapes Go.ChangeAt Go.RowKit
set_option linter.unusedVariables false
set_option linter.unusedSimpArgs false

theorem infoStrN : (Tryz.prog.info? 9).map (fun i => (i.zero, i.size, i.bytes)) = some (some (.string ByteArray.empty), 1, 16) := by kernel_rfl
theorem infoStrsN : (Tryz.prog.info? 36).map (fun i => (i.zero, i.size, i.bytes)) = some (some (.slice none 0 0), 1, 24) := by kernel_rfl
section
variable {g : Nat → Own} {D : Nat → Prop} {p mb : Nat} {ib nb : Int → Nat} {T : TrM}
def NamesAt (p B : Nat) (w : World) (id a : Int) (u v : Value) (m : Nat) (xs : List Value) (L : List (List Nm)) : Prop :=
  Calls Tryz.prog 97 #[ptr p, .int .i64 id, .int .i64 a, u, v] w fun e w' => ∃ v', e = .returned v' ∧ NamesRel B w v m xs L v' w'
theorem goodL_len {n : Nm} (h : goodL n = true) : n.length ≤ 16 := by
  unfold goodL at h
  simp only [Bool.and_eq_true, decide_eq_true_eq] at h
  exact h.1.1.2
/-- The node itself. -/
def selfP (id a : Int) (q : List Nm) : List (List Nm) := if a = id then [q] else []
/-- While names runs. -/
def NamesLoop (B : Nat) (w : World) (v : Value) (m : Nat) (xs : List Value) (S : List (List Nm)) (L : Nm × Int → List (List Nm)) (x : ItM) (nbk r : Nat) (v1 : Value) (wr : World) : Prop :=
  ∃ left cnt, NamesRel B w v m xs (S ++ (doneN left x.names).flatMap L) v1 wr ∧ RangeAt strK wr nbk r (nameL x) left cnt ∧ v1.ownBlock ≠ some r
/-- A path that is longer by one name. -/
theorem path_more {w w1 w2 : World} {cv v' : Value} {q : List Nm} {k : Nm} {o : Obj} {V : Value} (hV : ∀ b, V.ownBlock = some b → b < w.heap.size) (hB1 : Below w.heap.size w w1) (hq : ∀ n ∈ q ++ [k], n.length ≤ maxLen)
    (hown : w2.ownsRow w.heap.size 9 1 v' (q.length + 1) ((q.map strOf).map .string ++ [.string (strOf k)])) (hg : (w1.alloc o).grownBy w2 cv.ownBlock) (hcv : ∀ b, cv.ownBlock = some b → w.heap.size ≤ b) :
    Below w.heap.size w w2 ∧ PathV (fun b => V.ownBlock ≠ some b) w2 v' (q ++ [k]) := by
  have hs1 := hB1.size
  have hs2 := hg.size
  have hsa : (w1.alloc o).heap.size = w1.heap.size + 1 := by simp
  refine ⟨⟨hg.os.trans hB1.os, hg.tape.trans hB1.tape, hg.output.trans hB1.output, by omega, fun b hb => ?_⟩, ?_⟩
  · refine (hg.block b (by omega) (fun e => ?_)).trans (((MapKept.heap_alloc w1 o).2 b (by omega)).trans (hB1.block b hb))
    have := hcv b e.symm
    omega
  · have h1 : w2.ownsRow w.heap.size 9 1 v' (q.length + 1) (((q ++ [k]).map strOf).map .string) := by simpa using hown
    exact (PathV.of_own h1 hq).weak fun b _ hb he => by have := hV b he; omega
set_option maxHeartbeats 4000000 in
theorem names_step_dir (B : Nat) (id a : Int) (x : ItM) (q : List Nm) (L : Nm × Int → List (List Nm)) (w : World) (u v : Value) (m : Nat) (xs : List Value) (h : TreeAt g D w p mb ib nb T) (hT : OkM T) (hx : aget a T = some x) (hk : x.kind = 2) (hBw : B ≤ w.heap.size) (hB : ∀ b, g b ≠ .none ∨ D b → b < B)
    (hv : w.ownsRow B 36 1 v m xs) (hu : PathV (fun b => v.ownBlock ≠ some b) w u q) (hq : ∀ k ∈ q, k.length ≤ 16) (hql : q.length ≤ 64) (hm : m + (selfP id a q ++ x.names.flatMap L).length ≤ 1000)
    (hc : ∀ e ∈ x.names, ∀ w1 u1 v1 m1 xs1, TreeAt g D w1 p mb ib nb T → B ≤ w1.heap.size → w1.ownsRow B 36 1 v1 m1 xs1 → PathV (fun b => v1.ownBlock ≠ some b) w1 u1 (q ++ [e.1]) → m1 + (L e).length ≤ 1000 → NamesAt p B w1 id e.2 u1 v1 m1 xs1 (L e)) :
    NamesAt p B w id a u v m xs (selfP id a q ++ x.names.flatMap L) := by
  obtain ⟨S, hself⟩ : ∃ S, S = selfP id a q := ⟨_, rfl⟩
  rw [← hself] at hm ⊢
  obtain ⟨hc0, hpw, hmw⟩ := h.cell
  have hids := hT.ids a x hx
  have hok : intK.ok a := okInt hids.1 (by omega)
  have hget : aget a (T.map fun q => (q.1, ptr (ib q.1))) = some (ptr (ib a)) := by rw [aget_ptr, hx]; rfl
  have HG := Lib.hid hget
  have HC := Lib.hid hc
  have O1 := Lib.hid (hT.each a x hx)
  have HX := Lib.hid hx
  have HT := Lib.hid hT
  have HTR := Lib.hid h
  have HBB := Lib.hid hB
  have HV := Lib.hid hv
  have HU := Lib.hid hu
  have HQ := Lib.hid hq
  have HQM := Lib.hid (show ∀ k ∈ q, k.length ≤ maxLen from fun k hk => by have := hq k hk; unfold maxLen; omega)
  have HVL := Lib.hid (own_lt hv)
  have hml := hm
  rw [List.length_append] at hml
  have HS := Lib.hid hself
  obtain ⟨au, cu, rfl, hcu, hst⟩ := hu
  have HST := Lib.hid hst
  have HK := Lib.hid hk
  obtain ⟨Ts, hi⟩ := info_parts infoStrN
  have HI := Lib.hid hi
  obtain ⟨Tl, hil⟩ := info_parts infoStrsN
  have HIL := Lib.hid hil
  clear hx hT h hB hv hq hst hget hc hself hk hi hil hc0
  unfold NamesAt
  go_enter Tryz.func97, Tryz.ntmps97
  go_upto_if 15 with (fail)
  go_cut [4] (fun v1 wx => NamesRel B w v m xs S v1 wx)
  case first =>
    by_cases ha : a = id
    · have ha' : (a == id) = true := by simpa using ha
      have hS : S = [q] := by rw [HS.out]; exact if_pos ha
      have HCL := Lib.hid (cloneO_any au q.length cu (q.map strOf) w HST.out (by omega))
      rw [hS] at hml
      clear ha
      go_wp2_with fail
      (with_reducible refine HCL.out.mono ?_)
      rintro e w1 ⟨cv, rfl, hcv, hB1⟩
      obtain ⟨ac, cc, rfl, hcc⟩ := own_form hcv
      have HCV := Lib.hid hcv
      have HB1 := Lib.hid hB1
      have hs1 := hB1.size
      clear hcv hB1 HCL
      go_wp2_with (at_builtin; refine wpList_append_row rfl _ _ 43 rfl B 36 _ (.slice none 0 0) 24 Tryz.underlying43 HIL.out.1 HIL.out.2.1 HIL.out.2.2.1 HIL.out.2.2.2 rfl v m xs rfl (own_keep HV.out fun b hb hbw => ((MapKept.heap_alloc w1 _).2 b (by omega)).trans (HB1.out.block b hbw)) (some ⟨w1.heap.size, 0, none⟩) 1 1 [.slice ac q.length cc] rfl (one_row _ _) (by simp [Value.oneCell']) (by unfold maxLen; simp at hml; omega) (by simp at hml; omega) (by simp; omega) ?_; intro A1 k1 w2 hown2 hgrow2 _ hat2)
      have HREL := NamesRel.push HV.out HB1.out HCV.out HQM.out hown2 hgrow2 hat2
      go_meet
      rw [hS]
      exact HREL
    · have ha' : (a == id) = false := by simpa using ha
      have hS : S = [] := by rw [HS.out]; exact if_neg ha
      clear ha
      go_wp2_with fail
      go_meet
      rw [hS]
      exact NamesRel.refl HV.out
  case rest =>
    have HREL := Lib.hid hcut
    have hK1 := hcut.keeps.size
    have h1 := hcut.tree HV.out HTR.out HBB.out
    obtain ⟨w1, hw1⟩ : ∃ w1 : World, w1 = wc := ⟨_, rfl⟩
    rw [← hw1] at HREL hK1 h1 ⊢
    clear hw1 hcut
    obtain ⟨hc0, hpw1, hmw1⟩ := h1.cell
    obtain ⟨c0, c1, c2, c3, c4, c5, c7, hiw⟩ := (h1.item a x HX.out).cell
    have HMAP := Lib.hid h1.map
    have e2 : namesV x (nb a) = .map (some (nb a)) := if_pos HK.out
    rw [e2] at c7
    have HN := Lib.hid ((h1.item a x HX.out).names HK.out)
    have hbw := HN.out.lt
    have hnbB : nb a < B := HBB.out (nb a) (.inl (by rw [h1.tagn a x HX.out HK.out]; simp))
    clear h1 e2
    go_wp2_with (first | (at_lookup; refine wpList_look intK rfl _ _ 86 84 rfl Tryz.underlying86 (Tryz.zeroItem _) rfl HMAP.out a rfl hok ?_; rw [HG.out]) | (at_range; refine wpList_range strK rfl _ 89 3 rfl Tryz.underlying89 rfl HN.out ?_; intro w0 hR0 hB0 hs0))
    go_frame
    go_loopw [4] (fun v2 wr => NamesLoop B w v m xs S L x (nb a) w1.heap.size v2 wr) (fun _ wr => wr.rangeLeft (nb a) w1.heap.size)
    case atStart =>
      refine ⟨_, _, ?_, hR0, fun he => ?_⟩
      · have hD : doneN (fun k => (aget k (nameL x)).isSome) x.names = [] := doneN_none fun e he => by rw [aget_nameL, aget_of_mem bbLt O1.out.sorted he]; rfl
        rw [hD]
        simpa using HREL.out.below hB0
      · obtain ⟨m9, xs9, _, ho9, _⟩ := HREL.out.own
        have := own_lt ho9 _ he
        omega
    case round =>
      obtain ⟨left, cnt, hrel', hR, hne⟩ := hrel
      have HREL2 := Lib.hid hrel'
      have HR := Lib.hid hR
      have HNE := Lib.hid hne
      clear hrel' hR hne
      go_wp2_with (first | (at_next; refine wpList_next strK rfl _ rfl rfl HR.out ?_ ?_))
      · intro hdone
        have HDN := Lib.hid hdone
        clear hdone
        go_wp2
        go_ret
        refine ⟨_, rfl, ?_⟩
        have := HREL2.out
        rw [doneN_all HDN.out] at this
        exact this
      · intro k v3 w3 cnt1 hokk hleft hg2 hR1 hlt hK1' hs1 hen
        rw [aget_nameL] at hg2
        cases hk2 : aget k x.names with
        | none => rw [hk2] at hg2; cases hg2
        | some j =>
          rw [hk2] at hg2
          cases hg2
          have hmem := aget_mem hk2
          have hrw := HR.out.lt
          have hrel3 := HREL2.out.iter hK1' HR.out.nocell (by omega) HNE.out
          have HREL3 := Lib.hid hrel3
          have HP3 := Lib.hid (hrel3.path HU.out)
          obtain ⟨au3, cu3, he3, hcu3, hst3⟩ := HP3.out
          simp only [Value.slice.injEq, true_and] at he3
          obtain ⟨rfl, rfl⟩ := he3
          have HCL := Lib.hid (cloneO_any au q.length cu (q.map strOf) w3 hst3 (by omega))
          have hsz3 := hrel3.keeps.size
          have HPERM := Lib.hid (doneN_step (O1.out.sorted.apart bbLt) hmem hleft)
          have HTR3 := Lib.hid (hrel3.tree HV.out HTR.out HBB.out)
          have hlm := done_len L (fun z => left z && !decide (z = k)) x.names
          rw [(HPERM.out.flatMap_right L).length_eq, List.flatMap_append, List.length_append] at hlm
          simp only [List.flatMap_cons, List.flatMap_nil, List.append_nil] at hlm
          have HGN := Lib.hid ((O1.out).good _ hmem)
          have HMEM := Lib.hid hmem
          have HR1 := Lib.hid hR1
          have HLT := Lib.hid hlt
          clear hk2 hmem hR1 hlt hK1' hrel3 hst3 hleft
          show wpList _ _ _ _ _ _
          have e3 : strK.val k = .string (strOf k) := rfl
          rw [e3] at hen ⊢
          clear e3
          go_wp2_with fail
          (with_reducible refine HCL.out.mono ?_)
          rintro e w4 ⟨cv, rfl, hcv, hB4⟩
          obtain ⟨ac, cc, rfl, hcc⟩ := own_form hcv
          have HCV := Lib.hid hcv
          have HB4 := Lib.hid hB4
          have hs4 := hB4.size
          clear hcv hB4 HCL
          go_wp2_with (at_builtin; refine wpList_append_row rfl _ _ 36 rfl w3.heap.size 9 _ (.string ByteArray.empty) 16 Tryz.underlying36 HI.out.1 HI.out.2.1 HI.out.2.2.1 HI.out.2.2.2 rfl (.slice ac q.length cc) q.length ((q.map strOf).map .string) rfl (own_keep HCV.out fun b hb hbw => (MapKept.heap_alloc w4 _).2 b hbw) (some ⟨w4.heap.size, 0, none⟩) 1 1 [.string (strOf k)] rfl (one_row _ _) (by simp [Value.oneCell']) (by unfold maxLen; omega) (by omega) (by simp; omega) ?_; intro A5 k5 w5 hown5 hgrow5 _ _)
          have hcvb := own_block_ge HCV.out
          obtain ⟨hB5, hP5⟩ := path_more (V := u4) (fun b hb => own_lt (HREL3.out.own).choose_spec.choose_spec.2.1 b hb) HB4.out (fun n hn => by
            rcases List.mem_append.1 hn with h1 | h1
            · exact HQM.out n h1
            · obtain rfl : n = k := by simpa using h1
              have := goodL_len HGN.out
              unfold maxLen; omega) hown5 hgrow5 hcvb
          have hs5 := hB5.size
          have hrel5 := HREL3.out.below hB5
          obtain ⟨m5, xs5, hm5, ho5, htr⟩ := hrel5.own
          have HTRN := Lib.hid htr
          have h5 := hrel5.tree HV.out HTR.out HBB.out
          rw [List.length_append] at hm5
          have HCH := Lib.hid (HC.out (k, j) HMEM.out w5 (.slice A5 (q.length + 1) k5) u4 m5 xs5 h5 (by omega) ho5 hP5 (by omega))
          have HO5 := Lib.hid ho5
          have HB5 := Lib.hid hB5
          clear h5 htr hrel5 ho5 hown5 hgrow5 hP5 hB5 hcvb
          have HCH2 := Lib.hid (show Calls Tryz.prog 97 #[ptr p, .int .i64 id, .int .i64 j, .slice A5 (q.length + 1) k5, u4] w5 _ from HCH.out)
          (with_reducible refine HCH2.out.mono ?_)
          rintro e w6 ⟨v6, rfl, hrel6⟩
          have HREL6 := Lib.hid hrel6
          have HK6 := Lib.hid hrel6.keeps
          clear hrel6
          go_wp2_with fail
          have hkeep : ∀ b, b < w3.heap.size → u4.ownBlock ≠ some b → w6.heap[b]? = w3.heap[b]? := fun b hb hn => (HK6.out.block b (by omega) hn).trans (HB5.out.block b hb)
          have hR1w := HR1.out.lt
          have hkn := hkeep (nb a) hR1w.1 (fun he => by have := own_block_ge HO5.out _ he; omega)
          have hkr := hkeep w1.heap.size hR1w.2.1 HNE.out
          go_roundw
          case rel =>
            refine ⟨_, cnt1, (HTRN.out _ _ _ HREL6.out).perm ?_, HR1.out.kept hkn hkr, fun he => ?_⟩
            · have hp := HPERM.out.flatMap_right L
              rw [List.flatMap_append] at hp
              simp only [List.flatMap_cons, List.flatMap_nil, List.append_nil] at hp
              rw [List.append_assoc]
              exact hp.symm.append_left S
            · rcases HREL6.out.new _ he with h1 | h1
              · exact HNE.out h1
              · omega
          case measure =>
            have h4 : RangeAt strK w6 (nb a) w1.heap.size (nameL x) _ cnt1 := HR1.out.kept hkn hkr
            rw [h4.measure, HR.out.measure]
            exact HLT.out
set_option maxHeartbeats 4000000 in
theorem names_step_file (B : Nat) (id a : Int) (x : ItM) (q : List Nm) (L : Nm × Int → List (List Nm)) (w : World) (u v : Value) (m : Nat) (xs : List Value) (h : TreeAt g D w p mb ib nb T) (hT : OkM T) (hx : aget a T = some x) (hk : ¬ x.kind = 2) (hBw : B ≤ w.heap.size) (hB : ∀ b, g b ≠ .none ∨ D b → b < B)
    (hv : w.ownsRow B 36 1 v m xs) (hu : PathV (fun b => v.ownBlock ≠ some b) w u q) (hq : ∀ k ∈ q, k.length ≤ 16) (hql : q.length ≤ 64) (hm : m + (selfP id a q ++ x.names.flatMap L).length ≤ 1000)
    (hc : ∀ e ∈ x.names, ∀ w1 u1 v1 m1 xs1, TreeAt g D w1 p mb ib nb T → B ≤ w1.heap.size → w1.ownsRow B 36 1 v1 m1 xs1 → PathV (fun b => v1.ownBlock ≠ some b) w1 u1 (q ++ [e.1]) → m1 + (L e).length ≤ 1000 → NamesAt p B w1 id e.2 u1 v1 m1 xs1 (L e)) :
    NamesAt p B w id a u v m xs (selfP id a q ++ x.names.flatMap L) := by
  obtain ⟨S, hself⟩ : ∃ S, S = selfP id a q := ⟨_, rfl⟩
  rw [← hself] at hm ⊢
  obtain ⟨hc0, hpw, hmw⟩ := h.cell
  have hids := hT.ids a x hx
  have hok : intK.ok a := okInt hids.1 (by omega)
  have hget : aget a (T.map fun q => (q.1, ptr (ib q.1))) = some (ptr (ib a)) := by rw [aget_ptr, hx]; rfl
  have HG := Lib.hid hget
  have HC := Lib.hid hc
  have O1 := Lib.hid (hT.each a x hx)
  have HX := Lib.hid hx
  have HT := Lib.hid hT
  have HTR := Lib.hid h
  have HBB := Lib.hid hB
  have HV := Lib.hid hv
  have HU := Lib.hid hu
  have HQ := Lib.hid hq
  have HQM := Lib.hid (show ∀ k ∈ q, k.length ≤ maxLen from fun k hk => by have := hq k hk; unfold maxLen; omega)
  have HVL := Lib.hid (own_lt hv)
  have hml := hm
  rw [List.length_append] at hml
  have HS := Lib.hid hself
  obtain ⟨au, cu, rfl, hcu, hst⟩ := hu
  have HST := Lib.hid hst
  have HK := Lib.hid hk
  obtain ⟨Ts, hi⟩ := info_parts infoStrN
  have HI := Lib.hid hi
  obtain ⟨Tl, hil⟩ := info_parts infoStrsN
  have HIL := Lib.hid hil
  clear hx hT h hB hv hq hst hget hc hself hk hi hil hc0
  unfold NamesAt
  go_enter Tryz.func97, Tryz.ntmps97
  go_upto_if 15 with (fail)
  go_cut [4] (fun v1 wx => NamesRel B w v m xs S v1 wx)
  case first =>
    by_cases ha : a = id
    · have ha' : (a == id) = true := by simpa using ha
      have hS : S = [q] := by rw [HS.out]; exact if_pos ha
      have HCL := Lib.hid (cloneO_any au q.length cu (q.map strOf) w HST.out (by omega))
      rw [hS] at hml
      clear ha
      go_wp2_with fail
      (with_reducible refine HCL.out.mono ?_)
      rintro e w1 ⟨cv, rfl, hcv, hB1⟩
      obtain ⟨ac, cc, rfl, hcc⟩ := own_form hcv
      have HCV := Lib.hid hcv
      have HB1 := Lib.hid hB1
      have hs1 := hB1.size
      clear hcv hB1 HCL
      go_wp2_with (at_builtin; refine wpList_append_row rfl _ _ 43 rfl B 36 _ (.slice none 0 0) 24 Tryz.underlying43 HIL.out.1 HIL.out.2.1 HIL.out.2.2.1 HIL.out.2.2.2 rfl v m xs rfl (own_keep HV.out fun b hb hbw => ((MapKept.heap_alloc w1 _).2 b (by omega)).trans (HB1.out.block b hbw)) (some ⟨w1.heap.size, 0, none⟩) 1 1 [.slice ac q.length cc] rfl (one_row _ _) (by simp [Value.oneCell']) (by unfold maxLen; simp at hml; omega) (by simp at hml; omega) (by simp; omega) ?_; intro A1 k1 w2 hown2 hgrow2 _ hat2)
      have HREL := NamesRel.push HV.out HB1.out HCV.out HQM.out hown2 hgrow2 hat2
      go_meet
      rw [hS]
      exact HREL
    · have ha' : (a == id) = false := by simpa using ha
      have hS : S = [] := by rw [HS.out]; exact if_neg ha
      clear ha
      go_wp2_with fail
      go_meet
      rw [hS]
      exact NamesRel.refl HV.out
  case rest =>
    have HREL := Lib.hid hcut
    have hK1 := hcut.keeps.size
    have h1 := hcut.tree HV.out HTR.out HBB.out
    obtain ⟨w1, hw1⟩ : ∃ w1 : World, w1 = wc := ⟨_, rfl⟩
    rw [← hw1] at HREL hK1 h1 ⊢
    clear hw1 hcut
    obtain ⟨hc0, hpw1, hmw1⟩ := h1.cell
    obtain ⟨c0, c1, c2, c3, c4, c5, c7, hiw⟩ := (h1.item a x HX.out).cell
    have HMAP := Lib.hid h1.map
    have e2 : namesV x (nb a) = .map none := if_neg HK.out
    rw [e2] at c7
    have HNIL := Lib.hid (O1.out.file (O1.out.kind.resolve_right HK.out))
    clear h1 e2
    go_wp2_with (first | (at_lookup; refine wpList_look intK rfl _ _ 86 84 rfl Tryz.underlying86 (Tryz.zeroItem _) rfl HMAP.out a rfl hok ?_; rw [HG.out]) | (at_range; refine wpList_range_nil rfl _ 89 9 3 rfl Tryz.underlying89 rfl ?_))
    go_frame
    go_loopw [4] (fun v2 wr => NamesRel B w v m xs S v2 wr ∧ wr.heap[w1.heap.size]? = some (.mapIter none 0 #[] 0)) (fun _ wr => 0)
    case atStart => exact ⟨HREL.out.below (wall w1 _), (MapKept.heap_alloc w1 _).1⟩
    case round =>
      obtain ⟨hr, hit⟩ := hrel
      have HRR := Lib.hid hr
      clear hr
      go_wp2_with (first | (at_next; refine wpList_next_nil rfl _ rfl rfl hit ?_))
      go_ret
      refine ⟨_, rfl, ?_⟩
      rw [HNIL.out]
      simpa using HRR.out
/-- names, from a node that is no deeper than so many. -/
theorem treeNames_any (hT : OkM T) : ∀ (n B : Nat) (id a : Int) (q : List Nm) (w : World) (u v : Value) (m : Nat) (xs : List Value), TreeAt g D w p mb ib nb T → (aget a T).isSome = true → Shal T n a → B ≤ w.heap.size → (∀ b, g b ≠ .none ∨ D b → b < B) →
    w.ownsRow B 36 1 v m xs → PathV (fun b => v.ownBlock ≠ some b) w u q → (∀ k ∈ q, k.length ≤ 16) → q.length + n ≤ 64 → m + (pathsM T id n a q).length ≤ 1000 → NamesAt p B w id a u v m xs (pathsM T id n a q)
  | 0, B, id, a, q, w, u, v, m, xs, h, ha, hs, hBw, hB, hv, hu, hq, hql, hm => by
    obtain ⟨x, hx⟩ := Option.isSome_iff_exists.1 ha
    have e : x.names = [] := by have h1 : namesM T a = [] := hs; rw [namesM_of hx] at h1; exact h1
    have e2 : pathsM T id 0 a q = selfP id a q ++ x.names.flatMap fun _ => [] := by rw [e]; simp [pathsM, selfP]
    rw [e2] at hm ⊢
    have hc : ∀ e ∈ x.names, ∀ w1 u1 v1 m1 xs1, TreeAt g D w1 p mb ib nb T → B ≤ w1.heap.size → w1.ownsRow B 36 1 v1 m1 xs1 → PathV (fun b => v1.ownBlock ≠ some b) w1 u1 (q ++ [e.1]) → m1 + ([] : List (List Nm)).length ≤ 1000 → NamesAt p B w1 id e.2 u1 v1 m1 xs1 [] := fun y hy => by rw [e] at hy; cases hy
    by_cases hk : x.kind = 2
    · exact names_step_dir B id a x q (fun _ => []) w u v m xs h hT hx hk hBw hB hv hu hq (by omega) hm hc
    · exact names_step_file B id a x q (fun _ => []) w u v m xs h hT hx hk hBw hB hv hu hq (by omega) hm hc
  | n + 1, B, id, a, q, w, u, v, m, xs, h, ha, hs, hBw, hB, hv, hu, hq, hql, hm => by
    obtain ⟨x, hx⟩ := Option.isSome_iff_exists.1 ha
    have e := namesM_of hx
    have e2 : pathsM T id (n + 1) a q = selfP id a q ++ x.names.flatMap fun e => pathsM T id n e.2 (q ++ [e.1]) := by rw [← e]; rfl
    rw [e2] at hm ⊢
    have hc : ∀ e ∈ x.names, ∀ w1 u1 v1 m1 xs1, TreeAt g D w1 p mb ib nb T → B ≤ w1.heap.size → w1.ownsRow B 36 1 v1 m1 xs1 → PathV (fun b => v1.ownBlock ≠ some b) w1 u1 (q ++ [e.1]) → m1 + (pathsM T id n e.2 (q ++ [e.1])).length ≤ 1000 → NamesAt p B w1 id e.2 u1 v1 m1 xs1 (pathsM T id n e.2 (q ++ [e.1])) := fun y hy w1 u1 v1 m1 xs1 h1 h2 h3 h4 h5 =>
      treeNames_any hT n B id y.2 (q ++ [y.1]) w1 u1 v1 m1 xs1 h1 (hT.leads a x hx y hy).1 (hs y (by rw [e]; exact hy)) h2 hB h3 h4 (fun k hk => by
        rcases List.mem_append.1 hk with h6 | h6
        · exact hq k h6
        · obtain rfl : k = y.1 := by simpa using h6
          exact goodL_len ((hT.each a x hx).good y hy)) (by simp; omega) h5
    by_cases hk : x.kind = 2
    · exact names_step_dir B id a x q _ w u v m xs h hT hx hk hBw hB hv hu hq (by omega) hm hc
    · exact names_step_file B id a x q _ w u v m xs h hT hx hk hBw hB hv hu hq (by omega) hm hc
end
end Go.Proofs.YtbapdoicejakhaaGreat
namespace Go.Proofs.YtbapdoicejakhaaGreat
open Go.ChangeShapes Go.WideShapes Go.ChangeAt Go.RowKit
set_option linter.unusedVariables false

theorem equal_any {S S' : Nat → Prop} (a a' : Option Addr) (len cap len' cap' : Nat) (ss ss' : List ByteArray) (w : World) (h : StrsAt S w a len ss) (h' : StrsAt S' w a' len' ss') :
    Calls Tryz.prog 139 #[.slice a len cap, .slice a' len' cap'] w fun e w' => e = .returned (.bool (decide (ss = ss'))) ∧ Below w.heap.size w w' := by
  have hl := h.length
  have hl' := h'.length
  have hm := h.row.small
  have hm' := h'.row.small
  unfold maxLen at hm hm'
  by_cases hne : len = len'
  · subst hne
    by_cases h0 : len = 0
    · subst h0
      refine (Tryz.slices_Equal_string_empty a a' cap 0 cap' w (by omega)).mono ?_
      rintro e w' ⟨rfl, rfl⟩
      obtain rfl : ss = [] := by simpa using hl
      obtain rfl : ss' = [] := by simpa using hl'
      exact ⟨rfl, Below.refl _ _⟩
    · obtain ⟨b, off, rfl, _, _, _⟩ := h.row.at_ (by omega)
      obtain ⟨b', off', rfl, _, _, _⟩ := h'.row.at_ (by omega)
      refine (Tryz.slices_Equal_string b off len cap b' off' len cap' ss ss' w (by omega) (by omega) (by omega) (by omega) (fun j hj => strs_getD h j hj) (fun j hj => strs_getD h' j hj)).mono ?_
      rintro e w' ⟨rfl, q, rfl⟩
      rw [List.take_of_length_le (by omega), List.take_of_length_le (by omega)]
      exact ⟨rfl, ⟨rfl, rfl, rfl, Nat.le_refl _, fun _ _ => rfl⟩⟩
  · refine (Tryz.slices_Equal_string_lens a a' len cap len' cap' w hne).mono ?_
    rintro e w' ⟨rfl, rfl⟩
    have : ss ≠ ss' := fun e => hne (by rw [← hl, ← hl', e])
    exact ⟨by simp [this], Below.refl _ _⟩

def withinB (ss ss' : List ByteArray) : Bool := decide (ss.take ss'.length = ss')

theorem pwithin_any {S S' : Nat → Prop} (a a' : Option Addr) (len cap len' cap' : Nat) (ss ss' : List ByteArray) (w : World) (h : StrsAt S w a len ss) (h' : StrsAt S' w a' len' ss') (hcap : len ≤ cap) :
    Calls Tryz.prog 102 #[.slice a len cap, .slice a' len' cap'] w fun e w' => e = .returned (.bool (withinB ss ss')) ∧ Below w.heap.size w w' := by
  have hl := h.length
  have hl' := h'.length
  have hm := h.row.small
  unfold maxLen at hm
  by_cases hle : len' ≤ len
  · have hT := h.take len' hle
    have hp : decide (ss.take len' = ss') = withinB ss ss' := by
      unfold withinB; rw [hl']
    have HP := Lib.hid hp
    clear hp hl hl'
    have e5 : len' ≤ cap := by omega
    cases a with
    | none =>
      have h0 : len' = 0 := by
        rcases Nat.eq_zero_or_pos len' with h0 | h0
        · exact h0
        · obtain ⟨b, off, e, _⟩ := h.row.at_ (by omega)
          cases e
      subst h0
      go_enter Tryz.func102, Tryz.ntmps102
      go_wp2_with fail
      refine (equal_any _ _ _ _ _ _ _ _ _ hT h').mono ?_
      rintro e w1 ⟨rfl, hb⟩
      rw [HP.out]
      go_wp2_with fail
      go_ret
      exact ⟨rfl, hb⟩
    | some ad =>
      go_enter Tryz.func102, Tryz.ntmps102
      go_wp2_with fail
      refine (equal_any _ _ _ _ _ _ _ _ _ hT h').mono ?_
      rintro e w1 ⟨rfl, hb⟩
      rw [HP.out]
      go_wp2_with fail
      go_ret
      exact ⟨rfl, hb⟩
  · have hp : withinB ss ss' = false := by
      unfold withinB
      rw [decide_eq_false_iff_not]
      intro hh
      have := congrArg List.length hh
      simp at this
      omega
    have HP := Lib.hid hp
    clear hp hl hl'
    go_enter Tryz.func102, Tryz.ntmps102
    go_wp2_with fail
    go_ret
    exact ⟨ret_bool HP.out.symm, Below.refl _ _⟩

end Go.Proofs.YtbapdoicejakhaaGreat
