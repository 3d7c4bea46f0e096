/- SnapIds: the walk. -/
import Derived.Test.YtpgklnhkfgbpgaaGreatM31
import Derived.Test.YtpgklnhkfgbpgaaGreatM32
namespace Go.Proofs.YtpgklnhkfgbpgaaGreat.snapIds
open Go.ChangeShapes Go.WideShapes Go.ChangeAt Go.RowKit
set_option linter.unusedVariables false
set_option linter.unusedSimpArgs false

/-- The IDs rise, and lie below what comes next. -/
def RiseS (S : SnM) : Prop := (allM S).Pairwise (· < ·) ∧ ∀ z ∈ allM S, z < S.next
theorem RiseS.take {S : SnM} {T : TrM} (h : RiseS S) : RiseS (takeM S T).2 := by
  by_cases hf : S.l.length < 8
  · obtain ⟨x, S', e1, e2, e3, e4, e5, e6, e7, e8⟩ := takeM_room (T := T) hf
    rw [e1]
    have ea : allM S' = allM S ++ [S.next] := by unfold allM; rw [e2, List.map_append, ← e3]; rfl
    refine ⟨?_, ?_⟩
    · show (allM S').Pairwise _
      rw [ea, List.pairwise_append]
      exact ⟨h.1, by simp, fun a ha b hb => by rw [List.mem_singleton] at hb; rw [hb]; exact h.2 a ha⟩
    · intro z hz
      show z < S'.next
      rw [e5]
      have hz : z ∈ allM S' := hz
      rw [ea] at hz
      rcases List.mem_append.1 hz with hz | hz
      · have := h.2 z hz; omega
      · rw [List.mem_singleton] at hz; omega
  · have e1 : takeM S T = ((0, 4), S) := by unfold takeM; rw [if_pos (by omega)]
    rw [e1]; exact h
theorem RiseS.forget {S S' : SnM} {id now er : Int} (h : RiseS S) (hf : ForgetR S id now er S') : RiseS S' := by
  rcases hf with ⟨_, rfl, _⟩ | ⟨k, x, hx, _, _, hf⟩
  · exact h
  · rcases hf with ⟨_, _, rfl⟩ | ⟨_, _, rfl⟩
    · exact h
    · have hs : (allM (cutM S k)).Sublist (allM S) := by
        unfold allM cutM
        refine List.Sublist.map _ ?_
        conv => rhs; rw [← List.take_append_drop k S.l]
        refine List.Sublist.append (List.Sublist.refl _) ?_
        rw [← List.drop_drop]
        exact List.drop_sublist _ _
      exact ⟨h.1.sublist hs, fun z hz => h.2 z (hs.subset hz)⟩
theorem RiseS.new : RiseS newSn := ⟨List.Pairwise.nil, fun z hz => by cases hz⟩
theorem RiseS.at_ {S : SnM} (h : RiseS S) (k : Nat) (hk : k < (allM S).length) : (allM S)[k] < S.next := h.2 _ (List.getElem_mem hk)
theorem RiseS.next_ {S : SnM} (h : RiseS S) (k : Nat) (hk : k + 1 < (allM S).length) : (allM S)[k] < (allM S)[k + 1] := List.pairwise_iff_getElem.1 h.1 k (k + 1) (by omega) hk (by omega)
theorem _root_.Go.Proofs.YtpgklnhkfgbpgaaGreat.Sn13.cells2 {W w : World} {o : Mark} {b s t : Nat} {S : SnM} {T : TrM} (h : Sn13 W o w b s t S T) : w.cell? ⟨b, 0, none⟩ = some (ptr s) ∧ w.cell? ⟨b, 1, none⟩ = some (ptr t) := by
  obtain ⟨x, y, hx⟩ := h.box
  constructor <;> simp [World.cell?, hx]
def HeldS (W : World) (b s t k : Nat) (v : Value) (w : World) : Prop := ∃ o S, v = .int .i64 S.next ∧ Sn13 W o w b s t S newM ∧ S.next ≤ k + 1 ∧ RiseS S
set_option maxRecDepth 100000 in
set_option maxHeartbeats 64000000 in
theorem walk {H : Type} {enc : TypeId × Value → H} (W : World) (base : Nat) (v0 : Value) (d0 : DataW H) (p0 : List MemPlace) (o0 : Value.okWide Tryz.prog W .any base 22 v0) (h0 : DataW.Trod enc Tryz.prog W 0 (fun _ => true) true 22 v0 d0 p0) (l0 : ∀ x ∈ p0, x.block < W.heap.size) (hsz : (DataW.weightsEach Tryz.prog [22] ([d0] : List (DataW H))).all (· ≤ reachBytes) = true) :
    Calls Tryz.prog 3 #[v0] W (Fine W) := by
  obtain ⟨a, len, cap, rfl, hlc, hA⟩ : ∃ a len cap, v0 = .slice a len cap ∧ len ≤ cap ∧ AsksN W a len := by
    obtain ⟨a0, len, cap, rfl⟩ := okWide_slice Tryz.underlying22 o0
    obtain ⟨fuel, hf⟩ := h0
    refine open_asks13 hf l0 fun n hn => ?_
    have h1 := List.all_eq_true.1 hsz n (List.mem_append_left _ hn)
    simpa using h1
  have hlm := hA.1
  unfold maxLen at hlm
  have HA := Lib.hid hA
  clear o0 h0 l0 hsz hlc hA
  go_enter Tryz.func3, Tryz.ntmps3
  go_wp2_with fail
  (with_reducible refine (begin13_any W).mono ?_)
  rintro e w1 ⟨b, s, t, o1, rfl, hS1⟩
  have HST : Hid (HeldS W b s t 0 (.int .i64 1) w1) := ⟨o1, newSn, rfl, hS1, by simp [newSn], RiseS.new⟩
  clear hS1
  go_wp2_with fail
  go_loopw [4, 5] (fun nv i wr => ∃ k : Nat, i = .int .i64 k ∧ k ≤ 40 ∧ HeldS W b s t k nv wr) (fun _ i _ => 40 - (intOf i).toNat)
  case atStart => exact ⟨0, rfl, by omega, HST.out⟩
  case round =>
    obtain ⟨k, rfl, hk40, o, S, rfl, hS, hnk, hrise⟩ := hrel
    have HS := Lib.hid hS
    have HR := Lib.hid hrise
    have hn0 := hS.next
    obtain ⟨nx, hnx⟩ : ∃ nx, nx = S.next := ⟨_, rfl⟩
    rw [← hnx] at hn0 hnk ⊢
    have HNX := Lib.hid hnx
    obtain ⟨x1, x2, hbox⟩ := hS.box
    have hbl := hS.low
    have HBOX := Lib.hid hbox
    have q0 : wr.cell? ⟨b, 0, none⟩ = some (ptr s) := by simp [World.cell?, hbox]
    have q1 : wr.cell? ⟨b, 1, none⟩ = some (ptr t) := by simp [World.cell?, hbox]
    clear hS hrise hbox hnx
    by_cases hlt : k < len
    · have hd1 : decide (k < len) = true := by simpa using hlt
      by_cases h40 : k < 40
      · obtain ⟨g, off, rfl, hgw, hAk⟩ := HA.out.2 (by omega)
        obtain ⟨x, ba, bn, bc, hx⟩ := hAk k hlt
        have hbW := HS.out.marks.below
        obtain ⟨d0, d1, d2, d3, d4⟩ := hx.cells
        have c0 := (hbW.cell (p := ⟨g, off + k * 5, none⟩) hgw).trans d0
        have c2 := (hbW.cell (p := ⟨g, off + k * 5 + 2, none⟩) hgw).trans d2
        have i0 : (0 : Int) ≤ (k : Int) := by omega
        have i1 : (k : Int) < (len : Int) := by omega
        have i2 : (k : Int) < 40 := by omega
        have hd2 : decide ((k : Int) < 40) = true := by simpa using i2
        have hgr : g < wr.heap.size := by have := hbW.size; omega
        clear hAk hx hbW d0 d1 d2 d3 d4
        obtain ⟨bk, hbk⟩ : ∃ bk, bk = (x.kind.tmod 2 == 0) := ⟨_, rfl⟩
        have hbk2 := hbk.symm
        clear hbk
        cases bk with
        | true =>
          have HK2 : Hid (∀ w', Below wr.heap.size wr w' → w'.cell? ⟨b, 0, none⟩ = some (ptr s) ∧ w'.cell? ⟨g, off + k * 5 + 2, none⟩ = some (.int .i64 x.id)) := fun w' hb => ⟨(hb.cell (p := ⟨b, 0, none⟩) hbl).trans q0, (hb.cell (p := ⟨g, off + k * 5 + 2, none⟩) hgr).trans c2⟩
          have HFO := Lib.hid ((HS.out.grow (Below.refl _ _).drew).forget x.id 99)
          go_wp2_with fail
          refine wp_region_noPanic ?_
          refine wp_region_L (last := 9) (S := (fun w' => w'.cell? ⟨b, 0, none⟩ = some (ptr s) ∧ w'.cell? ⟨g, off + k * 5 + 2, none⟩ = some (.int .i64 x.id))) (by kernel_rfl) ?_ (fun hS => ?_)
          · exact HK2.out _ (Below.refl _ _).drew
          refine wpAnyL_take (i := 0) (oi := ?oi1) (v := ?v1) ?hi1 (by kernel_rfl) (by kernel_rfl) (by kernel_rfl) (by kernel_rfl) (by kernel_rfl) ?hq1 (Or.inl ⟨?hw1, ?hy1⟩) hS ?rest1
          case hi1 => simp only [List.getElem?_toArray, List.getElem?_cons_succ, List.getElem?_cons_zero]; rfl
          case hq1 => exact fun _ _ _ h => h
          case hw1 => rfl
          case hy1 => intro w hSw; (try dsimp only at hSw); go_simp; (try with_reducible rfl)
          try simp only [Act.put, List.setIfInBounds_toArray, List.set_cons_zero, List.set_cons_succ]
          refine wpAnyL_take (i := 1) (oi := ?oi2) (v := ?v2) ?hi2 (by kernel_rfl) (by kernel_rfl) (by kernel_rfl) (by kernel_rfl) (by kernel_rfl) ?hq2 (Or.inl ⟨?hw2, ?hy2⟩) hS ?rest2
          case hi2 => simp only [List.getElem?_toArray, List.getElem?_cons_succ, List.getElem?_cons_zero]; rfl
          case hq2 => exact fun _ _ _ h => h
          case hw2 => rfl
          case hy2 => intro w hSw; (try dsimp only at hSw); go_simp; (try with_reducible rfl)
          try simp only [Act.put, List.setIfInBounds_toArray, List.set_cons_zero, List.set_cons_succ]
          refine wpAnyL_take (i := 2) (oi := ?oi3) (v := ?v3) ?hi3 (by kernel_rfl) (by kernel_rfl) (by kernel_rfl) (by kernel_rfl) (by kernel_rfl) ?hq3 (Or.inl ⟨?hw3, ?hy3⟩) hS ?rest3
          case hi3 => simp only [List.getElem?_toArray, List.getElem?_cons_succ, List.getElem?_cons_zero]; rfl
          case hq3 => exact fun _ _ _ h => h
          case hw3 => rfl
          case hy3 => intro w hSw; (try dsimp only at hSw); go_simp; (try with_reducible rfl)
          try simp only [Act.put, List.setIfInBounds_toArray, List.set_cons_zero, List.set_cons_succ]
          refine wpAnyL_take (i := 3) (oi := ?oi4) (v := ?v4) ?hi4 (by kernel_rfl) (by kernel_rfl) (by kernel_rfl) (by kernel_rfl) (by kernel_rfl) ?hq4 (Or.inl ⟨?hw4, ?hy4⟩) hS ?rest4
          case hi4 => simp only [List.getElem?_toArray, List.getElem?_cons_succ, List.getElem?_cons_zero]; rfl
          case hq4 => exact fun _ _ _ h => h
          case hw4 => rfl
          case hy4 => intro w hSw; (try dsimp only at hSw); go_simp; (try with_reducible rfl)
          try simp only [Act.put, List.setIfInBounds_toArray, List.set_cons_zero, List.set_cons_succ]
          refine wpAnyL_take (i := 4) (oi := ?oi5) (v := ?v5) ?hi5 (by kernel_rfl) (by kernel_rfl) (by kernel_rfl) (by kernel_rfl) (by kernel_rfl) ?hq5 (Or.inl ⟨?hw5, ?hy5⟩) hS ?rest5
          case hi5 => simp only [List.getElem?_toArray, List.getElem?_cons_succ, List.getElem?_cons_zero]; rfl
          case hq5 => exact fun _ _ _ h => h
          case hw5 => rfl
          case hy5 => intro w hSw; (try dsimp only at hSw); go_simp; (try with_reducible rfl)
          try simp only [Act.put, List.setIfInBounds_toArray, List.set_cons_zero, List.set_cons_succ]
          refine wpAnyL_take (i := 5) (oi := ?oi6) (v := ?v6) ?hi6 (by kernel_rfl) (by kernel_rfl) (by kernel_rfl) (by kernel_rfl) (by kernel_rfl) ?hq6 (Or.inl ⟨?hw6, ?hy6⟩) hS ?rest6
          case hi6 => simp only [List.getElem?_toArray, List.getElem?_cons_succ, List.getElem?_cons_zero]; rfl
          case hq6 => exact fun _ _ _ h => h
          case hw6 => rfl
          case hy6 => intro w hSw; (try dsimp only at hSw); go_simp; (try with_reducible rfl)
          try simp only [Act.put, List.setIfInBounds_toArray, List.set_cons_zero, List.set_cons_succ]
          refine wpAnyL_take (i := 6) (oi := ?oi7) (v := ?v7) ?hi7 (by kernel_rfl) (by kernel_rfl) (by kernel_rfl) (by kernel_rfl) (by kernel_rfl) ?hq7 (Or.inl ⟨?hw7, ?hy7⟩) hS ?rest7
          case hi7 => simp only [List.getElem?_toArray, List.getElem?_cons_succ, List.getElem?_cons_zero]; rfl
          case hq7 => exact fun _ _ _ h => h
          case hw7 => rfl
          case hy7 => intro w hSw; (try dsimp only at hSw); go_simp; (try with_reducible rfl)
          try simp only [Act.put, List.setIfInBounds_toArray, List.set_cons_zero, List.set_cons_succ]
          refine wpAnyL_take (i := 7) (oi := ?oi8) (v := ?v8) ?hi8 (by kernel_rfl) (by kernel_rfl) (by kernel_rfl) (by kernel_rfl) (by kernel_rfl) ?hq8 (Or.inl ⟨?hw8, ?hy8⟩) hS ?rest8
          case hi8 => simp only [List.getElem?_toArray, List.getElem?_cons_succ, List.getElem?_cons_zero]; rfl
          case hq8 => exact fun _ _ _ h => h
          case hw8 => rfl
          case hy8 => intro w hSw; (try dsimp only at hSw); go_simp; (try with_reducible rfl)
          try simp only [Act.put, List.setIfInBounds_toArray, List.set_cons_zero, List.set_cons_succ]
          refine wpAnyL_take (i := 8) (oi := ?oi9) (v := ?v9) ?hi9 (by kernel_rfl) (by kernel_rfl) (by kernel_rfl) (by kernel_rfl) (by kernel_rfl) ?hq9 (Or.inl ⟨?hw9, ?hy9⟩) hS ?rest9
          case hi9 => simp only [List.getElem?_toArray, List.getElem?_cons_succ, List.getElem?_cons_zero]; rfl
          case hq9 => exact fun _ _ _ h => h
          case hw9 => rfl
          case hy9 => intro w hSw; (try dsimp only at hSw); go_simp; (try with_reducible rfl)
          try simp only [Act.put, List.setIfInBounds_toArray, List.set_cons_zero, List.set_cons_succ]
          refine wpAnyL_ready (rs := [9]) (by kernel_rfl) (by simp) ?_
          refine AllReadyL.cons (o := ?o10) ?ho10 (fun K hK => ?_) AllReadyL.nil
          case ho10 => simp only [List.getElem?_toArray, List.getElem?_cons_succ, List.getElem?_cons_zero]; rfl
          go_simp
          (with_reducible refine HFO.out.mono ?_)
          rintro e w2 ⟨er, S2, o2, rfl, hf, hS2⟩
          have HS2 := Lib.hid (show HeldS W b s t (k + 1) (.int .i64 nx) w2 from ⟨o2, S2, by rw [hf.next.1]; exact congrArg _ HNX.out, hS2, by rw [hf.next.1, ← HNX.out]; omega, HR.out.forget hf⟩)
          clear hf hS2
          go_wp2_with fail
          refine hK.out _ _ (fun h => absurd rfl h) (fun hS => ?_)
          clear hS hK K
          try simp only [Act.put, List.setIfInBounds_toArray, List.set_cons_zero, List.set_cons_succ]
          refine wpAnyL_done (by kernel_rfl) ?_ _
          refine NoPanic.normal ?_
          go_wp2_with fail
          go_roundw
          case rel => exact ⟨k + 1, by go_num, by omega, HS2.out⟩
          case measure => simp [intOf]; omega
        | false =>
          have HAL := Lib.hid HS.out.all
          obtain ⟨m, hm⟩ : ∃ m, m = (allM S).length := ⟨_, rfl⟩
          have hml : m = S.l.length := by rw [hm]; unfold allM; rw [List.length_map]
          have hm8 : m ≤ 8 := by rw [hml]; exact HS.out.len
          have HML := Lib.hid hml
          have HMM := Lib.hid hm
          clear hml hm c2
          go_wp2_with fail
          (with_reducible refine HAL.out.mono ?_)
          rintro e w2 ⟨a2, cap2, he, hcap2, hr2, hb2⟩
          have he : e = .returned (.slice a2 m cap2) := by rw [HMM.out]; exact he
          subst he
          have HS2 := Lib.hid (HS.out.grow hb2)
          obtain ⟨y1, y2, hbox2⟩ := HS2.out.box
          have HSQ : Hid (∀ w' : World, w'.heap[b]? = some (.cells #[ptr s, ptr t, ptr y1, ptr y2] 35 (0, 0)) → w'.cell? ⟨b, 0, none⟩ = some (ptr s) ∧ w'.cell? ⟨b, 1, none⟩ = some (ptr t)) := fun w' h => by constructor <;> simp [World.cell?, h]
          have hnx9 : S.next ≤ 1000000000 := by rw [← HNX.out]; omega
          have HTA := Lib.hid ((HS2.out.grow (Below.refl _ _).drew).take hnx9)
          have HBX2 := Lib.hid hbox2
          clear he hcap2 hr2 hb2 hbox2 HAL hnx9
          have hgd : (Below.refl wr.heap.size wr).size = (Below.refl wr.heap.size wr).size := rfl
          clear hgd
          by_cases hf : m < 8
          · obtain ⟨y, S', e1, e2, e3, e4, e5, e6, e7, e8⟩ := takeM_room (S := S) (T := newM) (by rw [← HML.out]; exact hf)
            have HRT := Lib.hid (HR.out.take (T := newM))
            rw [e1] at HTA HRT
            have HTA2 : Hid (Calls Tryz.prog 9 #[ptr s, ptr t] w2.drew fun e w' => e = .returned (.tuple #[.int .i64 nx, .int .i64 0]) ∧ ∃ o', Sn13 W o' w' b s t S' newM) := by
              rw [HNX.out]; exact HTA
            have HE5 := Lib.hid e5
            have hd8 : decide ((8 : Int) ≤ (m : Int)) = false := by simp; omega
            have hwr : IntKind.i64.wrap (nx + 1) = nx + 1 := IntWalk.i64_in _ (by omega)
            clear e1 e2 e3 e4 e5 e6 e7 e8 HTA hf
            go_wp2_with fail
            refine wp_region_noPanic ?_
            refine wp_region_held_drew (S := (fun w' => w'.cell? ⟨b, 0, none⟩ = some (ptr s) ∧ w'.cell? ⟨b, 1, none⟩ = some (ptr t))) (by kernel_rfl) ?_ (fun hS => ?_)
            · exact HSQ.out _ HBX2.out
            refine wpAnyH_take (i := 0) (oi := ?oi11) (v := ?v11) ?hi11 (by kernel_rfl) (by kernel_rfl) (by kernel_rfl) ?hq11 (Or.inl ⟨?hw11, ?hy11⟩) hS ?rest11
            case hi11 => simp only [List.getElem?_toArray, List.getElem?_cons_succ, List.getElem?_cons_zero]; rfl
            case hq11 => exact fun _ _ _ h => h
            case hw11 => rfl
            case hy11 => intro w hSw; (try dsimp only at hSw); go_simp; (try with_reducible rfl)
            try simp only [Act.put, List.setIfInBounds_toArray, List.set_cons_zero, List.set_cons_succ]
            refine wpAnyH_take (i := 1) (oi := ?oi12) (v := ?v12) ?hi12 (by kernel_rfl) (by kernel_rfl) (by kernel_rfl) ?hq12 (Or.inl ⟨?hw12, ?hy12⟩) hS ?rest12
            case hi12 => simp only [List.getElem?_toArray, List.getElem?_cons_succ, List.getElem?_cons_zero]; rfl
            case hq12 => exact fun _ _ _ h => h
            case hw12 => rfl
            case hy12 => intro w hSw; (try dsimp only at hSw); go_simp; (try with_reducible rfl)
            try simp only [Act.put, List.setIfInBounds_toArray, List.set_cons_zero, List.set_cons_succ]
            refine wpAnyH_take (i := 2) (oi := ?oi13) (v := ?v13) ?hi13 (by kernel_rfl) (by kernel_rfl) (by kernel_rfl) ?hq13 (Or.inl ⟨?hw13, ?hy13⟩) hS ?rest13
            case hi13 => simp only [List.getElem?_toArray, List.getElem?_cons_succ, List.getElem?_cons_zero]; rfl
            case hq13 => exact fun _ _ _ h => h
            case hw13 => rfl
            case hy13 => intro w hSw; (try dsimp only at hSw); go_simp; (try with_reducible rfl)
            try simp only [Act.put, List.setIfInBounds_toArray, List.set_cons_zero, List.set_cons_succ]
            refine wpAnyH_take (i := 3) (oi := ?oi14) (v := ?v14) ?hi14 (by kernel_rfl) (by kernel_rfl) (by kernel_rfl) ?hq14 (Or.inl ⟨?hw14, ?hy14⟩) hS ?rest14
            case hi14 => simp only [List.getElem?_toArray, List.getElem?_cons_succ, List.getElem?_cons_zero]; rfl
            case hq14 => exact fun _ _ _ h => h
            case hw14 => rfl
            case hy14 => intro w hSw; (try dsimp only at hSw); go_simp; (try with_reducible rfl)
            try simp only [Act.put, List.setIfInBounds_toArray, List.set_cons_zero, List.set_cons_succ]
            refine wpAnyH_take (i := 4) (oi := ?oi15) (v := ?v15) ?hi15 (by kernel_rfl) (by kernel_rfl) (by kernel_rfl) ?hq15 (Or.inl ⟨?hw15, ?hy15⟩) hS ?rest15
            case hi15 => simp only [List.getElem?_toArray, List.getElem?_cons_succ, List.getElem?_cons_zero]; rfl
            case hq15 => exact fun _ _ _ h => h
            case hw15 => rfl
            case hy15 => intro w hSw; (try dsimp only at hSw); go_simp; (try with_reducible rfl)
            try simp only [Act.put, List.setIfInBounds_toArray, List.set_cons_zero, List.set_cons_succ]
            refine wpAnyH_take (i := 5) (oi := ?oi16) (v := ?v16) ?hi16 (by kernel_rfl) (by kernel_rfl) (by kernel_rfl) ?hq16 (Or.inl ⟨?hw16, ?hy16⟩) hS ?rest16
            case hi16 => simp only [List.getElem?_toArray, List.getElem?_cons_succ, List.getElem?_cons_zero]; rfl
            case hq16 => exact fun _ _ _ h => h
            case hw16 => rfl
            case hy16 => intro w hSw; (try dsimp only at hSw); go_simp; (try with_reducible rfl)
            try simp only [Act.put, List.setIfInBounds_toArray, List.set_cons_zero, List.set_cons_succ]
            refine wpAnyH_take (i := 6) (oi := ?oi17) (v := ?v17) ?hi17 (by kernel_rfl) (by kernel_rfl) (by kernel_rfl) ?hq17 (Or.inl ⟨?hw17, ?hy17⟩) hS ?rest17
            case hi17 => simp only [List.getElem?_toArray, List.getElem?_cons_succ, List.getElem?_cons_zero]; rfl
            case hq17 => exact fun _ _ _ h => h
            case hw17 => rfl
            case hy17 => intro w hSw; (try dsimp only at hSw); go_simp; (try with_reducible rfl)
            try simp only [Act.put, List.setIfInBounds_toArray, List.set_cons_zero, List.set_cons_succ]
            refine wpAnyH_take (i := 7) (oi := ?oi18) (v := ?v18) ?hi18 (by kernel_rfl) (by kernel_rfl) (by kernel_rfl) ?hq18 (Or.inl ⟨?hw18, ?hy18⟩) hS ?rest18
            case hi18 => simp only [List.getElem?_toArray, List.getElem?_cons_succ, List.getElem?_cons_zero]; rfl
            case hq18 => exact fun _ _ _ h => h
            case hw18 => rfl
            case hy18 => intro w hSw; (try dsimp only at hSw); go_simp; (try with_reducible rfl)
            try simp only [Act.put, List.setIfInBounds_toArray, List.set_cons_zero, List.set_cons_succ]
            refine wpAnyH_ready (rs := [8]) (by kernel_rfl) (by simp) ?_
            refine AllReadyH.cons (o := ?o19) ?ho19 (fun K hK => ?_) AllReadyH.nil
            case ho19 => simp only [List.getElem?_toArray, List.getElem?_cons_succ, List.getElem?_cons_zero]; rfl
            go_simp
            (with_reducible refine HTA2.out.mono ?_)
            rintro e w3 ⟨rfl, o3, hS3⟩
            have HS3 := Lib.hid (show HeldS W b s t (k + 1) (.int .i64 (nx + 1)) w3 from ⟨o3, S', by rw [HE5.out, HNX.out], hS3, by rw [HE5.out, ← HNX.out]; omega, HRT.out⟩)
            have hcc := hS3.cells2
            have HCC := Lib.hid hcc
            clear hS3 hcc
            go_wp2_with fail
            refine hK.out _ _ (HCC.out) (fun hS => ?_)
            clear hK K
            try simp only [Act.put, List.setIfInBounds_toArray, List.set_cons_zero, List.set_cons_succ]
            refine wpAnyH_take (i := 9) (oi := ?oi20) (v := ?v20) ?hi20 (by kernel_rfl) (by kernel_rfl) (by kernel_rfl) ?hq20 (Or.inl ⟨?hw20, ?hy20⟩) hS ?rest20
            case hi20 => simp only [List.getElem?_toArray, List.getElem?_cons_succ, List.getElem?_cons_zero]; rfl
            case hq20 => exact fun _ _ _ h => h
            case hw20 => rfl
            case hy20 => intro w hSw; (try dsimp only at hSw); go_simp; (try with_reducible rfl)
            try simp only [Act.put, List.setIfInBounds_toArray, List.set_cons_zero, List.set_cons_succ]
            refine wpAnyH_take (i := 10) (oi := ?oi21) (v := ?v21) ?hi21 (by kernel_rfl) (by kernel_rfl) (by kernel_rfl) ?hq21 (Or.inl ⟨?hw21, ?hy21⟩) hS ?rest21
            case hi21 => simp only [List.getElem?_toArray, List.getElem?_cons_succ, List.getElem?_cons_zero]; rfl
            case hq21 => exact fun _ _ _ h => h
            case hw21 => rfl
            case hy21 => intro w hSw; (try dsimp only at hSw); go_simp; (try with_reducible rfl)
            try simp only [Act.put, List.setIfInBounds_toArray, List.set_cons_zero, List.set_cons_succ]
            refine wpAnyH_take (i := 11) (oi := ?oi22) (v := ?v22) ?hi22 (by kernel_rfl) (by kernel_rfl) (by kernel_rfl) ?hq22 (Or.inl ⟨?hw22, ?hy22⟩) hS ?rest22
            case hi22 => simp only [List.getElem?_toArray, List.getElem?_cons_succ, List.getElem?_cons_zero]; rfl
            case hq22 => exact fun _ _ _ h => h
            case hw22 => rfl
            case hy22 => intro w hSw; (try dsimp only at hSw); go_simp; (try with_reducible rfl)
            try simp only [Act.put, List.setIfInBounds_toArray, List.set_cons_zero, List.set_cons_succ]
            refine wpAnyH_take (i := 12) (oi := ?oi23) (v := ?v23) ?hi23 (by kernel_rfl) (by kernel_rfl) (by kernel_rfl) ?hq23 (Or.inl ⟨?hw23, ?hy23⟩) hS ?rest23
            case hi23 => simp only [List.getElem?_toArray, List.getElem?_cons_succ, List.getElem?_cons_zero]; rfl
            case hq23 => exact fun _ _ _ h => h
            case hw23 => rfl
            case hy23 => intro w hSw; (try dsimp only at hSw); go_simp; (try with_reducible rfl)
            try simp only [Act.put, List.setIfInBounds_toArray, List.set_cons_zero, List.set_cons_succ]
            refine wpAnyH_take (i := 13) (oi := ?oi24) (v := ?v24) ?hi24 (by kernel_rfl) (by kernel_rfl) (by kernel_rfl) ?hq24 (Or.inl ⟨?hw24, ?hy24⟩) hS ?rest24
            case hi24 => simp only [List.getElem?_toArray, List.getElem?_cons_succ, List.getElem?_cons_zero]; rfl
            case hq24 => exact fun _ _ _ h => h
            case hw24 => rfl
            case hy24 => intro w hSw; (try dsimp only at hSw); go_simp; (try with_reducible rfl)
            try simp only [Act.put, List.setIfInBounds_toArray, List.set_cons_zero, List.set_cons_succ]
            refine wpAnyH_done (by kernel_rfl) ?_ _
            refine NoPanic.normal ?_
            go_wp2_with fail
            go_roundw
            case rel => exact ⟨k + 1, by go_num, by omega, HS3.out⟩
            case measure => simp [intOf]; omega
          · have e1 : takeM S newM = ((0, 4), S) := by unfold takeM; rw [if_pos (by rw [← HML.out]; omega)]
            rw [e1] at HTA
            have HTA2 : Hid (Calls Tryz.prog 9 #[ptr s, ptr t] w2.drew fun e w' => e = .returned (.tuple #[.int .i64 0, .int .i64 4]) ∧ ∃ o', Sn13 W o' w' b s t S newM) := HTA
            have hd8 : decide ((8 : Int) ≤ (m : Int)) = true := by simp; omega
            clear e1 HTA hf
            go_wp2_with fail
            refine wp_region_noPanic ?_
            refine wp_region_held_drew (S := (fun w' => w'.cell? ⟨b, 0, none⟩ = some (ptr s) ∧ w'.cell? ⟨b, 1, none⟩ = some (ptr t))) (by kernel_rfl) ?_ (fun hS => ?_)
            · exact HSQ.out _ HBX2.out
            refine wpAnyH_take (i := 0) (oi := ?oi25) (v := ?v25) ?hi25 (by kernel_rfl) (by kernel_rfl) (by kernel_rfl) ?hq25 (Or.inl ⟨?hw25, ?hy25⟩) hS ?rest25
            case hi25 => simp only [List.getElem?_toArray, List.getElem?_cons_succ, List.getElem?_cons_zero]; rfl
            case hq25 => exact fun _ _ _ h => h
            case hw25 => rfl
            case hy25 => intro w hSw; (try dsimp only at hSw); go_simp; (try with_reducible rfl)
            try simp only [Act.put, List.setIfInBounds_toArray, List.set_cons_zero, List.set_cons_succ]
            refine wpAnyH_take (i := 1) (oi := ?oi26) (v := ?v26) ?hi26 (by kernel_rfl) (by kernel_rfl) (by kernel_rfl) ?hq26 (Or.inl ⟨?hw26, ?hy26⟩) hS ?rest26
            case hi26 => simp only [List.getElem?_toArray, List.getElem?_cons_succ, List.getElem?_cons_zero]; rfl
            case hq26 => exact fun _ _ _ h => h
            case hw26 => rfl
            case hy26 => intro w hSw; (try dsimp only at hSw); go_simp; (try with_reducible rfl)
            try simp only [Act.put, List.setIfInBounds_toArray, List.set_cons_zero, List.set_cons_succ]
            refine wpAnyH_take (i := 2) (oi := ?oi27) (v := ?v27) ?hi27 (by kernel_rfl) (by kernel_rfl) (by kernel_rfl) ?hq27 (Or.inl ⟨?hw27, ?hy27⟩) hS ?rest27
            case hi27 => simp only [List.getElem?_toArray, List.getElem?_cons_succ, List.getElem?_cons_zero]; rfl
            case hq27 => exact fun _ _ _ h => h
            case hw27 => rfl
            case hy27 => intro w hSw; (try dsimp only at hSw); go_simp; (try with_reducible rfl)
            try simp only [Act.put, List.setIfInBounds_toArray, List.set_cons_zero, List.set_cons_succ]
            refine wpAnyH_take (i := 3) (oi := ?oi28) (v := ?v28) ?hi28 (by kernel_rfl) (by kernel_rfl) (by kernel_rfl) ?hq28 (Or.inl ⟨?hw28, ?hy28⟩) hS ?rest28
            case hi28 => simp only [List.getElem?_toArray, List.getElem?_cons_succ, List.getElem?_cons_zero]; rfl
            case hq28 => exact fun _ _ _ h => h
            case hw28 => rfl
            case hy28 => intro w hSw; (try dsimp only at hSw); go_simp; (try with_reducible rfl)
            try simp only [Act.put, List.setIfInBounds_toArray, List.set_cons_zero, List.set_cons_succ]
            refine wpAnyH_take (i := 4) (oi := ?oi29) (v := ?v29) ?hi29 (by kernel_rfl) (by kernel_rfl) (by kernel_rfl) ?hq29 (Or.inl ⟨?hw29, ?hy29⟩) hS ?rest29
            case hi29 => simp only [List.getElem?_toArray, List.getElem?_cons_succ, List.getElem?_cons_zero]; rfl
            case hq29 => exact fun _ _ _ h => h
            case hw29 => rfl
            case hy29 => intro w hSw; (try dsimp only at hSw); go_simp; (try with_reducible rfl)
            try simp only [Act.put, List.setIfInBounds_toArray, List.set_cons_zero, List.set_cons_succ]
            refine wpAnyH_take (i := 5) (oi := ?oi30) (v := ?v30) ?hi30 (by kernel_rfl) (by kernel_rfl) (by kernel_rfl) ?hq30 (Or.inl ⟨?hw30, ?hy30⟩) hS ?rest30
            case hi30 => simp only [List.getElem?_toArray, List.getElem?_cons_succ, List.getElem?_cons_zero]; rfl
            case hq30 => exact fun _ _ _ h => h
            case hw30 => rfl
            case hy30 => intro w hSw; (try dsimp only at hSw); go_simp; (try with_reducible rfl)
            try simp only [Act.put, List.setIfInBounds_toArray, List.set_cons_zero, List.set_cons_succ]
            refine wpAnyH_take (i := 6) (oi := ?oi31) (v := ?v31) ?hi31 (by kernel_rfl) (by kernel_rfl) (by kernel_rfl) ?hq31 (Or.inl ⟨?hw31, ?hy31⟩) hS ?rest31
            case hi31 => simp only [List.getElem?_toArray, List.getElem?_cons_succ, List.getElem?_cons_zero]; rfl
            case hq31 => exact fun _ _ _ h => h
            case hw31 => rfl
            case hy31 => intro w hSw; (try dsimp only at hSw); go_simp; (try with_reducible rfl)
            try simp only [Act.put, List.setIfInBounds_toArray, List.set_cons_zero, List.set_cons_succ]
            refine wpAnyH_take (i := 7) (oi := ?oi32) (v := ?v32) ?hi32 (by kernel_rfl) (by kernel_rfl) (by kernel_rfl) ?hq32 (Or.inl ⟨?hw32, ?hy32⟩) hS ?rest32
            case hi32 => simp only [List.getElem?_toArray, List.getElem?_cons_succ, List.getElem?_cons_zero]; rfl
            case hq32 => exact fun _ _ _ h => h
            case hw32 => rfl
            case hy32 => intro w hSw; (try dsimp only at hSw); go_simp; (try with_reducible rfl)
            try simp only [Act.put, List.setIfInBounds_toArray, List.set_cons_zero, List.set_cons_succ]
            refine wpAnyH_ready (rs := [8]) (by kernel_rfl) (by simp) ?_
            refine AllReadyH.cons (o := ?o33) ?ho33 (fun K hK => ?_) AllReadyH.nil
            case ho33 => simp only [List.getElem?_toArray, List.getElem?_cons_succ, List.getElem?_cons_zero]; rfl
            go_simp
            (with_reducible refine HTA2.out.mono ?_)
            rintro e w3 ⟨rfl, o3, hS3⟩
            have HS3 := Lib.hid (show HeldS W b s t (k + 1) (.int .i64 nx) w3 from ⟨o3, S, congrArg _ HNX.out, hS3, by rw [← HNX.out]; omega, HR.out⟩)
            have hcc := hS3.cells2
            have HCC := Lib.hid hcc
            clear hS3 hcc
            go_wp2_with fail
            refine hK.out _ _ (HCC.out) (fun hS => ?_)
            clear hK K
            try simp only [Act.put, List.setIfInBounds_toArray, List.set_cons_zero, List.set_cons_succ]
            refine wpAnyH_take (i := 9) (oi := ?oi34) (v := ?v34) ?hi34 (by kernel_rfl) (by kernel_rfl) (by kernel_rfl) ?hq34 (Or.inl ⟨?hw34, ?hy34⟩) hS ?rest34
            case hi34 => simp only [List.getElem?_toArray, List.getElem?_cons_succ, List.getElem?_cons_zero]; rfl
            case hq34 => exact fun _ _ _ h => h
            case hw34 => rfl
            case hy34 => intro w hSw; (try dsimp only at hSw); go_simp; (try with_reducible rfl)
            try simp only [Act.put, List.setIfInBounds_toArray, List.set_cons_zero, List.set_cons_succ]
            refine wpAnyH_take (i := 10) (oi := ?oi35) (v := ?v35) ?hi35 (by kernel_rfl) (by kernel_rfl) (by kernel_rfl) ?hq35 (Or.inl ⟨?hw35, ?hy35⟩) hS ?rest35
            case hi35 => simp only [List.getElem?_toArray, List.getElem?_cons_succ, List.getElem?_cons_zero]; rfl
            case hq35 => exact fun _ _ _ h => h
            case hw35 => rfl
            case hy35 => intro w hSw; (try dsimp only at hSw); go_simp; (try with_reducible rfl)
            try simp only [Act.put, List.setIfInBounds_toArray, List.set_cons_zero, List.set_cons_succ]
            refine wpAnyH_take (i := 11) (oi := ?oi36) (v := ?v36) ?hi36 (by kernel_rfl) (by kernel_rfl) (by kernel_rfl) ?hq36 (Or.inl ⟨?hw36, ?hy36⟩) hS ?rest36
            case hi36 => simp only [List.getElem?_toArray, List.getElem?_cons_succ, List.getElem?_cons_zero]; rfl
            case hq36 => exact fun _ _ _ h => h
            case hw36 => rfl
            case hy36 => intro w hSw; (try dsimp only at hSw); go_simp; (try with_reducible rfl)
            try simp only [Act.put, List.setIfInBounds_toArray, List.set_cons_zero, List.set_cons_succ]
            refine wpAnyH_take (i := 12) (oi := ?oi37) (v := ?v37) ?hi37 (by kernel_rfl) (by kernel_rfl) (by kernel_rfl) ?hq37 (Or.inl ⟨?hw37, ?hy37⟩) hS ?rest37
            case hi37 => simp only [List.getElem?_toArray, List.getElem?_cons_succ, List.getElem?_cons_zero]; rfl
            case hq37 => exact fun _ _ _ h => h
            case hw37 => rfl
            case hy37 => intro w hSw; (try dsimp only at hSw); go_simp; (try with_reducible rfl)
            try simp only [Act.put, List.setIfInBounds_toArray, List.set_cons_zero, List.set_cons_succ]
            refine wpAnyH_take (i := 13) (oi := ?oi38) (v := ?v38) ?hi38 (by kernel_rfl) (by kernel_rfl) (by kernel_rfl) ?hq38 (Or.inl ⟨?hw38, ?hy38⟩) hS ?rest38
            case hi38 => simp only [List.getElem?_toArray, List.getElem?_cons_succ, List.getElem?_cons_zero]; rfl
            case hq38 => exact fun _ _ _ h => h
            case hw38 => rfl
            case hy38 => intro w hSw; (try dsimp only at hSw); go_simp; (try with_reducible rfl)
            try simp only [Act.put, List.setIfInBounds_toArray, List.set_cons_zero, List.set_cons_succ]
            refine wpAnyH_done (by kernel_rfl) ?_ _
            refine NoPanic.normal ?_
            go_wp2_with fail
            go_roundw
            case rel => exact ⟨k + 1, by go_num, by omega, HS3.out⟩
            case measure => simp [intOf]; omega
      · have hd1 : decide (k < len) = true := by simpa using hlt
        have hd2 : decide ((k : Int) < 40) = false := by simp; omega
        have HAL := Lib.hid HS.out.all
        obtain ⟨m, hm⟩ : ∃ m, m = (allM S).length := ⟨_, rfl⟩
        have hm8 : m ≤ 8 := by rw [hm]; unfold allM; rw [List.length_map]; exact HS.out.len
        have HMM := Lib.hid hm
        have HBW := Lib.hid HS.out.marks.below
        clear hm
        go_wp2_with fail
        (with_reducible refine HAL.out.mono ?_)
        rintro e w2 ⟨a2, cap2, he, hcap2, hr2, hb2⟩
        have he : e = .returned (.slice a2 m cap2) := by rw [HMM.out]; exact he
        subst he
        have HR2 := Lib.hid hr2
        have HB2 := Lib.hid (HBW.out.trans (hb2.mono HBW.out.size))
        clear he hcap2 hr2 hb2 HAL HBW q0 q1
        go_wp2_with fail
        go_loopw [10] (fun i wz => ∃ j : Nat, j ≤ m ∧ i = .int .i64 j ∧ Below w2.heap.size w2 wz) (fun i _ => m - (intOf i).toNat)
        case atStart => exact ⟨0, by omega, rfl, Below.refl _ _⟩
        case round =>
          obtain ⟨j, hj, rfl, hB⟩ := hrel
          have HB := Lib.hid hB
          by_cases hjm : j < m
          · have hd3 : decide ((j : Int) < (m : Int)) = true := by simpa using hjm
            have hj0 : (0 : Int) ≤ (j : Int) := by omega
            have hjm' : (j : Int) < (m : Int) := by omega
            have hjl : j < (allM S).length := by rw [← HMM.out]; exact hjm
            obtain ⟨g2, o2, rfl, _, hgw2, hcell2⟩ := HR2.out.at_ (by rw [← HMM.out]; omega)
            have z0 := HR.out.at_ j hjl
            have zc : wr.cell? ⟨g2, o2 + j, none⟩ = some (.int .i64 (allM S)[j]) := by
              refine (hB.cell (p := ⟨g2, o2 + j, none⟩) hgw2).trans ?_
              rw [hcell2 j hjl, List.getElem?_map, List.getElem?_eq_getElem hjl]; rfl
            rw [← HNX.out] at z0
            by_cases h0 : j = 0
            · have hd4 : decide ((0 : Int) < (j : Int)) = false := by simp; omega
              have hd5 : (0 < j) = False := eq_false (by omega)
              generalize (allM S)[j] = z at z0 zc
              have hd6 : decide (nx ≤ z) = false := by simp; omega
              clear h0 hcell2 hB hjl z0
              go_wp2_with fail
              refine wp_region_noPanic ?_
              refine wp_region_held_drew (S := (fun w' => w'.cell? ⟨g2, o2 + j, none⟩ = some (.int .i64 z))) (by kernel_rfl) ?_ (fun hS => ?_)
              · exact zc
              refine wpAnyH_take (i := 0) (oi := ?oi39) (v := ?v39) ?hi39 (by kernel_rfl) (by kernel_rfl) (by kernel_rfl) ?hq39 (Or.inl ⟨?hw39, ?hy39⟩) hS ?rest39
              case hi39 => simp only [List.getElem?_toArray, List.getElem?_cons_succ, List.getElem?_cons_zero]; rfl
              case hq39 => exact fun _ _ _ h => h
              case hw39 => rfl
              case hy39 => intro w hSw; (try dsimp only at hSw); go_simp; (try with_reducible rfl)
              try simp only [Act.put, List.setIfInBounds_toArray, List.set_cons_zero, List.set_cons_succ]
              refine wpAnyH_take (i := 1) (oi := ?oi40) (v := ?v40) ?hi40 (by kernel_rfl) (by kernel_rfl) (by kernel_rfl) ?hq40 (Or.inl ⟨?hw40, ?hy40⟩) hS ?rest40
              case hi40 => simp only [List.getElem?_toArray, List.getElem?_cons_succ, List.getElem?_cons_zero]; rfl
              case hq40 => exact fun _ _ _ h => h
              case hw40 => rfl
              case hy40 => intro w hSw; (try dsimp only at hSw); go_simp; (try with_reducible rfl)
              try simp only [Act.put, List.setIfInBounds_toArray, List.set_cons_zero, List.set_cons_succ]
              refine wpAnyH_take (i := 2) (oi := ?oi41) (v := ?v41) ?hi41 (by kernel_rfl) (by kernel_rfl) (by kernel_rfl) ?hq41 (Or.inl ⟨?hw41, ?hy41⟩) hS ?rest41
              case hi41 => simp only [List.getElem?_toArray, List.getElem?_cons_succ, List.getElem?_cons_zero]; rfl
              case hq41 => exact fun _ _ _ h => h
              case hw41 => rfl
              case hy41 => intro w hSw; (try dsimp only at hSw); go_simp; (try with_reducible rfl)
              try simp only [Act.put, List.setIfInBounds_toArray, List.set_cons_zero, List.set_cons_succ]
              refine wpAnyH_take (i := 3) (oi := ?oi42) (v := ?v42) ?hi42 (by kernel_rfl) (by kernel_rfl) (by kernel_rfl) ?hq42 (Or.inl ⟨?hw42, ?hy42⟩) hS ?rest42
              case hi42 => simp only [List.getElem?_toArray, List.getElem?_cons_succ, List.getElem?_cons_zero]; rfl
              case hq42 => exact fun _ _ _ h => h
              case hw42 => rfl
              case hy42 => intro w hSw; (try dsimp only at hSw); go_simp; (try with_reducible rfl)
              try simp only [Act.put, List.setIfInBounds_toArray, List.set_cons_zero, List.set_cons_succ]
              refine wpAnyH_take (i := 4) (oi := ?oi43) (v := ?v43) ?hi43 (by kernel_rfl) (by kernel_rfl) (by kernel_rfl) ?hq43 (Or.inl ⟨?hw43, ?hy43⟩) hS ?rest43
              case hi43 => simp only [List.getElem?_toArray, List.getElem?_cons_succ, List.getElem?_cons_zero]; rfl
              case hq43 => exact fun _ _ _ h => h
              case hw43 => rfl
              case hy43 => intro w hSw; (try dsimp only at hSw); go_simp; (try with_reducible rfl)
              try simp only [Act.put, List.setIfInBounds_toArray, List.set_cons_zero, List.set_cons_succ]
              refine wpAnyH_take (i := 5) (oi := ?oi44) (v := ?v44) ?hi44 (by kernel_rfl) (by kernel_rfl) (by kernel_rfl) ?hq44 (Or.inl ⟨?hw44, ?hy44⟩) hS ?rest44
              case hi44 => simp only [List.getElem?_toArray, List.getElem?_cons_succ, List.getElem?_cons_zero]; rfl
              case hq44 => exact fun _ _ _ h => h
              case hw44 => rfl
              case hy44 => intro w hSw; (try dsimp only at hSw); go_simp; (try with_reducible rfl)
              try simp only [Act.put, List.setIfInBounds_toArray, List.set_cons_zero, List.set_cons_succ]
              refine wpAnyH_take (i := 6) (oi := ?oi45) (v := ?v45) ?hi45 (by kernel_rfl) (by kernel_rfl) (by kernel_rfl) ?hq45 (Or.inl ⟨?hw45, ?hy45⟩) hS ?rest45
              case hi45 => simp only [List.getElem?_toArray, List.getElem?_cons_succ, List.getElem?_cons_zero]; rfl
              case hq45 => exact fun _ _ _ h => h
              case hw45 => rfl
              case hy45 => intro w hSw; (try dsimp only at hSw); go_simp; (try with_reducible rfl)
              try simp only [Act.put, List.setIfInBounds_toArray, List.set_cons_zero, List.set_cons_succ]
              refine wpAnyH_take (i := 7) (oi := ?oi46) (v := ?v46) ?hi46 (by kernel_rfl) (by kernel_rfl) (by kernel_rfl) ?hq46 (Or.inl ⟨?hw46, ?hy46⟩) hS ?rest46
              case hi46 => simp only [List.getElem?_toArray, List.getElem?_cons_succ, List.getElem?_cons_zero]; rfl
              case hq46 => exact fun _ _ _ h => h
              case hw46 => rfl
              case hy46 => intro w hSw; (try dsimp only at hSw); go_simp; (try with_reducible rfl)
              try simp only [Act.put, List.setIfInBounds_toArray, List.set_cons_zero, List.set_cons_succ]
              refine wpAnyH_take (i := 8) (oi := ?oi47) (v := ?v47) ?hi47 (by kernel_rfl) (by kernel_rfl) (by kernel_rfl) ?hq47 (Or.inl ⟨?hw47, ?hy47⟩) hS ?rest47
              case hi47 => simp only [List.getElem?_toArray, List.getElem?_cons_succ, List.getElem?_cons_zero]; rfl
              case hq47 => exact fun _ _ _ h => h
              case hw47 => rfl
              case hy47 => intro w hSw; (try dsimp only at hSw); go_simp; (try with_reducible rfl)
              try simp only [Act.put, List.setIfInBounds_toArray, List.set_cons_zero, List.set_cons_succ]
              refine wpAnyH_take (i := 9) (oi := ?oi48) (v := ?v48) ?hi48 (by kernel_rfl) (by kernel_rfl) (by kernel_rfl) ?hq48 (Or.inl ⟨?hw48, ?hy48⟩) hS ?rest48
              case hi48 => simp only [List.getElem?_toArray, List.getElem?_cons_succ, List.getElem?_cons_zero]; rfl
              case hq48 => exact fun _ _ _ h => h
              case hw48 => rfl
              case hy48 => intro w hSw; (try dsimp only at hSw); go_simp; (try with_reducible rfl)
              try simp only [Act.put, List.setIfInBounds_toArray, List.set_cons_zero, List.set_cons_succ]
              refine wpAnyH_take (i := 10) (oi := ?oi49) (v := undef) ?hi49 (by kernel_rfl) (by kernel_rfl) (by kernel_rfl) ?hq49 (Or.inr ⟨?hw49, rfl⟩) hS ?rest49
              case hi49 => simp only [List.getElem?_toArray, List.getElem?_cons_succ, List.getElem?_cons_zero]; rfl
              case hq49 => exact fun _ _ _ h => h
              case hw49 => rfl
              try simp only [Act.put, List.setIfInBounds_toArray, List.set_cons_zero, List.set_cons_succ]
              refine wpAnyH_take (i := 11) (oi := ?oi50) (v := undef) ?hi50 (by kernel_rfl) (by kernel_rfl) (by kernel_rfl) ?hq50 (Or.inr ⟨?hw50, rfl⟩) hS ?rest50
              case hi50 => simp only [List.getElem?_toArray, List.getElem?_cons_succ, List.getElem?_cons_zero]; rfl
              case hq50 => exact fun _ _ _ h => h
              case hw50 => rfl
              try simp only [Act.put, List.setIfInBounds_toArray, List.set_cons_zero, List.set_cons_succ]
              refine wpAnyH_take (i := 12) (oi := ?oi51) (v := undef) ?hi51 (by kernel_rfl) (by kernel_rfl) (by kernel_rfl) ?hq51 (Or.inr ⟨?hw51, rfl⟩) hS ?rest51
              case hi51 => simp only [List.getElem?_toArray, List.getElem?_cons_succ, List.getElem?_cons_zero]; rfl
              case hq51 => exact fun _ _ _ h => h
              case hw51 => rfl
              try simp only [Act.put, List.setIfInBounds_toArray, List.set_cons_zero, List.set_cons_succ]
              refine wpAnyH_take (i := 13) (oi := ?oi52) (v := undef) ?hi52 (by kernel_rfl) (by kernel_rfl) (by kernel_rfl) ?hq52 (Or.inr ⟨?hw52, rfl⟩) hS ?rest52
              case hi52 => simp only [List.getElem?_toArray, List.getElem?_cons_succ, List.getElem?_cons_zero]; rfl
              case hq52 => exact fun _ _ _ h => h
              case hw52 => rfl
              try simp only [Act.put, List.setIfInBounds_toArray, List.set_cons_zero, List.set_cons_succ]
              refine wpAnyH_take (i := 14) (oi := ?oi53) (v := undef) ?hi53 (by kernel_rfl) (by kernel_rfl) (by kernel_rfl) ?hq53 (Or.inr ⟨?hw53, rfl⟩) hS ?rest53
              case hi53 => simp only [List.getElem?_toArray, List.getElem?_cons_succ, List.getElem?_cons_zero]; rfl
              case hq53 => exact fun _ _ _ h => h
              case hw53 => rfl
              try simp only [Act.put, List.setIfInBounds_toArray, List.set_cons_zero, List.set_cons_succ]
              refine wpAnyH_take (i := 15) (oi := ?oi54) (v := undef) ?hi54 (by kernel_rfl) (by kernel_rfl) (by kernel_rfl) ?hq54 (Or.inr ⟨?hw54, rfl⟩) hS ?rest54
              case hi54 => simp only [List.getElem?_toArray, List.getElem?_cons_succ, List.getElem?_cons_zero]; rfl
              case hq54 => exact fun _ _ _ h => h
              case hw54 => rfl
              try simp only [Act.put, List.setIfInBounds_toArray, List.set_cons_zero, List.set_cons_succ]
              refine wpAnyH_take (i := 16) (oi := ?oi55) (v := undef) ?hi55 (by kernel_rfl) (by kernel_rfl) (by kernel_rfl) ?hq55 (Or.inr ⟨?hw55, rfl⟩) hS ?rest55
              case hi55 => simp only [List.getElem?_toArray, List.getElem?_cons_succ, List.getElem?_cons_zero]; rfl
              case hq55 => exact fun _ _ _ h => h
              case hw55 => rfl
              try simp only [Act.put, List.setIfInBounds_toArray, List.set_cons_zero, List.set_cons_succ]
              refine wpAnyH_take (i := 17) (oi := ?oi56) (v := undef) ?hi56 (by kernel_rfl) (by kernel_rfl) (by kernel_rfl) ?hq56 (Or.inr ⟨?hw56, rfl⟩) hS ?rest56
              case hi56 => simp only [List.getElem?_toArray, List.getElem?_cons_succ, List.getElem?_cons_zero]; rfl
              case hq56 => exact fun _ _ _ h => h
              case hw56 => rfl
              try simp only [Act.put, List.setIfInBounds_toArray, List.set_cons_zero, List.set_cons_succ]
              refine wpAnyH_take (i := 18) (oi := ?oi57) (v := undef) ?hi57 (by kernel_rfl) (by kernel_rfl) (by kernel_rfl) ?hq57 (Or.inr ⟨?hw57, rfl⟩) hS ?rest57
              case hi57 => simp only [List.getElem?_toArray, List.getElem?_cons_succ, List.getElem?_cons_zero]; rfl
              case hq57 => exact fun _ _ _ h => h
              case hw57 => rfl
              try simp only [Act.put, List.setIfInBounds_toArray, List.set_cons_zero, List.set_cons_succ]
              refine wpAnyH_take (i := 19) (oi := ?oi58) (v := undef) ?hi58 (by kernel_rfl) (by kernel_rfl) (by kernel_rfl) ?hq58 (Or.inr ⟨?hw58, rfl⟩) hS ?rest58
              case hi58 => simp only [List.getElem?_toArray, List.getElem?_cons_succ, List.getElem?_cons_zero]; rfl
              case hq58 => exact fun _ _ _ h => h
              case hw58 => rfl
              try simp only [Act.put, List.setIfInBounds_toArray, List.set_cons_zero, List.set_cons_succ]
              refine wpAnyH_take (i := 20) (oi := ?oi59) (v := ?v59) ?hi59 (by kernel_rfl) (by kernel_rfl) (by kernel_rfl) ?hq59 (Or.inl ⟨?hw59, ?hy59⟩) hS ?rest59
              case hi59 => simp only [List.getElem?_toArray, List.getElem?_cons_succ, List.getElem?_cons_zero]; rfl
              case hq59 => exact fun _ _ _ h => h
              case hw59 => rfl
              case hy59 => intro w hSw; (try dsimp only at hSw); go_simp; (try with_reducible rfl)
              try simp only [Act.put, List.setIfInBounds_toArray, List.set_cons_zero, List.set_cons_succ]
              refine wpAnyH_take (i := 21) (oi := ?oi60) (v := ?v60) ?hi60 (by kernel_rfl) (by kernel_rfl) (by kernel_rfl) ?hq60 (Or.inl ⟨?hw60, ?hy60⟩) hS ?rest60
              case hi60 => simp only [List.getElem?_toArray, List.getElem?_cons_succ, List.getElem?_cons_zero]; rfl
              case hq60 => exact fun _ _ _ h => h
              case hw60 => rfl
              case hy60 => intro w hSw; (try dsimp only at hSw); go_simp; (try with_reducible rfl)
              try simp only [Act.put, List.setIfInBounds_toArray, List.set_cons_zero, List.set_cons_succ]
              refine wpAnyH_done (by kernel_rfl) ?_ _
              refine NoPanic.normal ?_
              clear hS
              go_wp2_with fail
              go_roundw
              case rel => exact ⟨j + 1, by omega, by go_num, HB.out.trans ⟨rfl, rfl, rfl, Nat.le_refl _, fun _ _ => rfl⟩⟩
              case measure => simp [intOf]; omega
            · obtain ⟨i, hi⟩ : ∃ i, j = i + 1 := ⟨j - 1, by omega⟩
              have hil : i < (allM S).length := by omega
              have zd : wr.cell? ⟨g2, o2 + i, none⟩ = some (.int .i64 (allM S)[i]) := by
                refine (hB.cell (p := ⟨g2, o2 + i, none⟩) hgw2).trans ?_
                rw [hcell2 i hil, List.getElem?_map, List.getElem?_eq_getElem hil]; rfl
              have hlt9 : (allM S)[i] < (allM S)[j] := by
                have := HR.out.next_ i (by omega)
                simp only [hi]
                exact this
              have hd4 : decide ((0 : Int) < (j : Int)) = true := by simp; omega
              have hd5 : (0 < j) = True := eq_true (by omega)
              generalize (allM S)[j] = z at z0 zc hlt9
              generalize (allM S)[i] = y at zd hlt9
              have hd6 : decide (nx ≤ z) = false := by simp; omega
              have hd7 : decide (z ≤ y) = false := by simp; omega
              have hwi : IntKind.i64.wrap ((j : Int) - 1) = (i : Int) := by
                rw [show (j : Int) - 1 = (i : Int) by omega]
                exact IntWalk.i64_in _ (by omega)
              have hi0 : (0 : Int) ≤ (i : Int) := by omega
              have hin : (i : Int) < (m : Int) := by omega
              clear h0 hcell2 hB hjl z0 hil hlt9 hi
              go_wp2_with fail
              refine wp_region_noPanic ?_
              refine wp_region_held_drew (S := (fun w' => w'.cell? ⟨g2, o2 + j, none⟩ = some (.int .i64 z) ∧ w'.cell? ⟨g2, o2 + i, none⟩ = some (.int .i64 y))) (by kernel_rfl) ?_ (fun hS => ?_)
              · exact ⟨zc, zd⟩
              refine wpAnyH_take (i := 0) (oi := ?oi61) (v := ?v61) ?hi61 (by kernel_rfl) (by kernel_rfl) (by kernel_rfl) ?hq61 (Or.inl ⟨?hw61, ?hy61⟩) hS ?rest61
              case hi61 => simp only [List.getElem?_toArray, List.getElem?_cons_succ, List.getElem?_cons_zero]; rfl
              case hq61 => exact fun _ _ _ h => h
              case hw61 => rfl
              case hy61 => intro w hSw; (try dsimp only at hSw); go_simp; (try with_reducible rfl)
              try simp only [Act.put, List.setIfInBounds_toArray, List.set_cons_zero, List.set_cons_succ]
              refine wpAnyH_take (i := 1) (oi := ?oi62) (v := ?v62) ?hi62 (by kernel_rfl) (by kernel_rfl) (by kernel_rfl) ?hq62 (Or.inl ⟨?hw62, ?hy62⟩) hS ?rest62
              case hi62 => simp only [List.getElem?_toArray, List.getElem?_cons_succ, List.getElem?_cons_zero]; rfl
              case hq62 => exact fun _ _ _ h => h
              case hw62 => rfl
              case hy62 => intro w hSw; (try dsimp only at hSw); go_simp; (try with_reducible rfl)
              try simp only [Act.put, List.setIfInBounds_toArray, List.set_cons_zero, List.set_cons_succ]
              refine wpAnyH_take (i := 2) (oi := ?oi63) (v := ?v63) ?hi63 (by kernel_rfl) (by kernel_rfl) (by kernel_rfl) ?hq63 (Or.inl ⟨?hw63, ?hy63⟩) hS ?rest63
              case hi63 => simp only [List.getElem?_toArray, List.getElem?_cons_succ, List.getElem?_cons_zero]; rfl
              case hq63 => exact fun _ _ _ h => h
              case hw63 => rfl
              case hy63 => intro w hSw; (try dsimp only at hSw); go_simp; (try with_reducible rfl)
              try simp only [Act.put, List.setIfInBounds_toArray, List.set_cons_zero, List.set_cons_succ]
              refine wpAnyH_take (i := 3) (oi := ?oi64) (v := ?v64) ?hi64 (by kernel_rfl) (by kernel_rfl) (by kernel_rfl) ?hq64 (Or.inl ⟨?hw64, ?hy64⟩) hS ?rest64
              case hi64 => simp only [List.getElem?_toArray, List.getElem?_cons_succ, List.getElem?_cons_zero]; rfl
              case hq64 => exact fun _ _ _ h => h
              case hw64 => rfl
              case hy64 => intro w hSw; (try dsimp only at hSw); go_simp; (try with_reducible rfl)
              try simp only [Act.put, List.setIfInBounds_toArray, List.set_cons_zero, List.set_cons_succ]
              refine wpAnyH_take (i := 4) (oi := ?oi65) (v := ?v65) ?hi65 (by kernel_rfl) (by kernel_rfl) (by kernel_rfl) ?hq65 (Or.inl ⟨?hw65, ?hy65⟩) hS ?rest65
              case hi65 => simp only [List.getElem?_toArray, List.getElem?_cons_succ, List.getElem?_cons_zero]; rfl
              case hq65 => exact fun _ _ _ h => h
              case hw65 => rfl
              case hy65 => intro w hSw; (try dsimp only at hSw); go_simp; (try with_reducible rfl)
              try simp only [Act.put, List.setIfInBounds_toArray, List.set_cons_zero, List.set_cons_succ]
              refine wpAnyH_take (i := 5) (oi := ?oi66) (v := ?v66) ?hi66 (by kernel_rfl) (by kernel_rfl) (by kernel_rfl) ?hq66 (Or.inl ⟨?hw66, ?hy66⟩) hS ?rest66
              case hi66 => simp only [List.getElem?_toArray, List.getElem?_cons_succ, List.getElem?_cons_zero]; rfl
              case hq66 => exact fun _ _ _ h => h
              case hw66 => rfl
              case hy66 => intro w hSw; (try dsimp only at hSw); go_simp; (try with_reducible rfl)
              try simp only [Act.put, List.setIfInBounds_toArray, List.set_cons_zero, List.set_cons_succ]
              refine wpAnyH_take (i := 6) (oi := ?oi67) (v := ?v67) ?hi67 (by kernel_rfl) (by kernel_rfl) (by kernel_rfl) ?hq67 (Or.inl ⟨?hw67, ?hy67⟩) hS ?rest67
              case hi67 => simp only [List.getElem?_toArray, List.getElem?_cons_succ, List.getElem?_cons_zero]; rfl
              case hq67 => exact fun _ _ _ h => h
              case hw67 => rfl
              case hy67 => intro w hSw; (try dsimp only at hSw); go_simp; (try with_reducible rfl)
              try simp only [Act.put, List.setIfInBounds_toArray, List.set_cons_zero, List.set_cons_succ]
              refine wpAnyH_take (i := 7) (oi := ?oi68) (v := ?v68) ?hi68 (by kernel_rfl) (by kernel_rfl) (by kernel_rfl) ?hq68 (Or.inl ⟨?hw68, ?hy68⟩) hS ?rest68
              case hi68 => simp only [List.getElem?_toArray, List.getElem?_cons_succ, List.getElem?_cons_zero]; rfl
              case hq68 => exact fun _ _ _ h => h
              case hw68 => rfl
              case hy68 => intro w hSw; (try dsimp only at hSw); go_simp; (try with_reducible rfl)
              try simp only [Act.put, List.setIfInBounds_toArray, List.set_cons_zero, List.set_cons_succ]
              refine wpAnyH_take (i := 8) (oi := ?oi69) (v := ?v69) ?hi69 (by kernel_rfl) (by kernel_rfl) (by kernel_rfl) ?hq69 (Or.inl ⟨?hw69, ?hy69⟩) hS ?rest69
              case hi69 => simp only [List.getElem?_toArray, List.getElem?_cons_succ, List.getElem?_cons_zero]; rfl
              case hq69 => exact fun _ _ _ h => h
              case hw69 => rfl
              case hy69 => intro w hSw; (try dsimp only at hSw); go_simp; (try with_reducible rfl)
              try simp only [Act.put, List.setIfInBounds_toArray, List.set_cons_zero, List.set_cons_succ]
              refine wpAnyH_take (i := 9) (oi := ?oi70) (v := ?v70) ?hi70 (by kernel_rfl) (by kernel_rfl) (by kernel_rfl) ?hq70 (Or.inl ⟨?hw70, ?hy70⟩) hS ?rest70
              case hi70 => simp only [List.getElem?_toArray, List.getElem?_cons_succ, List.getElem?_cons_zero]; rfl
              case hq70 => exact fun _ _ _ h => h
              case hw70 => rfl
              case hy70 => intro w hSw; (try dsimp only at hSw); go_simp; (try with_reducible rfl)
              try simp only [Act.put, List.setIfInBounds_toArray, List.set_cons_zero, List.set_cons_succ]
              refine wpAnyH_take (i := 10) (oi := ?oi71) (v := ?v71) ?hi71 (by kernel_rfl) (by kernel_rfl) (by kernel_rfl) ?hq71 (Or.inl ⟨?hw71, ?hy71⟩) hS ?rest71
              case hi71 => simp only [List.getElem?_toArray, List.getElem?_cons_succ, List.getElem?_cons_zero]; rfl
              case hq71 => exact fun _ _ _ h => h
              case hw71 => rfl
              case hy71 => intro w hSw; (try dsimp only at hSw); go_simp; (try with_reducible rfl)
              try simp only [Act.put, List.setIfInBounds_toArray, List.set_cons_zero, List.set_cons_succ]
              refine wpAnyH_take (i := 11) (oi := ?oi72) (v := ?v72) ?hi72 (by kernel_rfl) (by kernel_rfl) (by kernel_rfl) ?hq72 (Or.inl ⟨?hw72, ?hy72⟩) hS ?rest72
              case hi72 => simp only [List.getElem?_toArray, List.getElem?_cons_succ, List.getElem?_cons_zero]; rfl
              case hq72 => exact fun _ _ _ h => h
              case hw72 => rfl
              case hy72 => intro w hSw; (try dsimp only at hSw); go_simp; (try with_reducible rfl)
              try simp only [Act.put, List.setIfInBounds_toArray, List.set_cons_zero, List.set_cons_succ]
              refine wpAnyH_take (i := 12) (oi := ?oi73) (v := ?v73) ?hi73 (by kernel_rfl) (by kernel_rfl) (by kernel_rfl) ?hq73 (Or.inl ⟨?hw73, ?hy73⟩) hS ?rest73
              case hi73 => simp only [List.getElem?_toArray, List.getElem?_cons_succ, List.getElem?_cons_zero]; rfl
              case hq73 => exact fun _ _ _ h => h
              case hw73 => rfl
              case hy73 => intro w hSw; (try dsimp only at hSw); go_simp; (try with_reducible rfl)
              try simp only [Act.put, List.setIfInBounds_toArray, List.set_cons_zero, List.set_cons_succ]
              refine wpAnyH_take (i := 13) (oi := ?oi74) (v := ?v74) ?hi74 (by kernel_rfl) (by kernel_rfl) (by kernel_rfl) ?hq74 (Or.inl ⟨?hw74, ?hy74⟩) hS ?rest74
              case hi74 => simp only [List.getElem?_toArray, List.getElem?_cons_succ, List.getElem?_cons_zero]; rfl
              case hq74 => exact fun _ _ _ h => h
              case hw74 => rfl
              case hy74 => intro w hSw; (try dsimp only at hSw); go_simp; (try with_reducible rfl)
              try simp only [Act.put, List.setIfInBounds_toArray, List.set_cons_zero, List.set_cons_succ]
              refine wpAnyH_take (i := 14) (oi := ?oi75) (v := ?v75) ?hi75 (by kernel_rfl) (by kernel_rfl) (by kernel_rfl) ?hq75 (Or.inl ⟨?hw75, ?hy75⟩) hS ?rest75
              case hi75 => simp only [List.getElem?_toArray, List.getElem?_cons_succ, List.getElem?_cons_zero]; rfl
              case hq75 => exact fun _ _ _ h => h
              case hw75 => rfl
              case hy75 => intro w hSw; (try dsimp only at hSw); go_simp; (try with_reducible rfl)
              try simp only [Act.put, List.setIfInBounds_toArray, List.set_cons_zero, List.set_cons_succ]
              refine wpAnyH_take (i := 15) (oi := ?oi76) (v := ?v76) ?hi76 (by kernel_rfl) (by kernel_rfl) (by kernel_rfl) ?hq76 (Or.inl ⟨?hw76, ?hy76⟩) hS ?rest76
              case hi76 => simp only [List.getElem?_toArray, List.getElem?_cons_succ, List.getElem?_cons_zero]; rfl
              case hq76 => exact fun _ _ _ h => h
              case hw76 => rfl
              case hy76 => intro w hSw; (try dsimp only at hSw); go_simp; (try with_reducible rfl)
              try simp only [Act.put, List.setIfInBounds_toArray, List.set_cons_zero, List.set_cons_succ]
              refine wpAnyH_take (i := 16) (oi := ?oi77) (v := ?v77) ?hi77 (by kernel_rfl) (by kernel_rfl) (by kernel_rfl) ?hq77 (Or.inl ⟨?hw77, ?hy77⟩) hS ?rest77
              case hi77 => simp only [List.getElem?_toArray, List.getElem?_cons_succ, List.getElem?_cons_zero]; rfl
              case hq77 => exact fun _ _ _ h => h
              case hw77 => rfl
              case hy77 => intro w hSw; (try dsimp only at hSw); go_simp; (try with_reducible rfl)
              try simp only [Act.put, List.setIfInBounds_toArray, List.set_cons_zero, List.set_cons_succ]
              refine wpAnyH_take (i := 17) (oi := ?oi78) (v := ?v78) ?hi78 (by kernel_rfl) (by kernel_rfl) (by kernel_rfl) ?hq78 (Or.inl ⟨?hw78, ?hy78⟩) hS ?rest78
              case hi78 => simp only [List.getElem?_toArray, List.getElem?_cons_succ, List.getElem?_cons_zero]; rfl
              case hq78 => exact fun _ _ _ h => h
              case hw78 => rfl
              case hy78 => intro w hSw; (try dsimp only at hSw); go_simp; (try with_reducible rfl)
              try simp only [Act.put, List.setIfInBounds_toArray, List.set_cons_zero, List.set_cons_succ]
              refine wpAnyH_take (i := 18) (oi := ?oi79) (v := ?v79) ?hi79 (by kernel_rfl) (by kernel_rfl) (by kernel_rfl) ?hq79 (Or.inl ⟨?hw79, ?hy79⟩) hS ?rest79
              case hi79 => simp only [List.getElem?_toArray, List.getElem?_cons_succ, List.getElem?_cons_zero]; rfl
              case hq79 => exact fun _ _ _ h => h
              case hw79 => rfl
              case hy79 => intro w hSw; (try dsimp only at hSw); go_simp; (try with_reducible rfl)
              try simp only [Act.put, List.setIfInBounds_toArray, List.set_cons_zero, List.set_cons_succ]
              refine wpAnyH_take (i := 19) (oi := ?oi80) (v := ?v80) ?hi80 (by kernel_rfl) (by kernel_rfl) (by kernel_rfl) ?hq80 (Or.inl ⟨?hw80, ?hy80⟩) hS ?rest80
              case hi80 => simp only [List.getElem?_toArray, List.getElem?_cons_succ, List.getElem?_cons_zero]; rfl
              case hq80 => exact fun _ _ _ h => h
              case hw80 => rfl
              case hy80 => intro w hSw; (try dsimp only at hSw); go_simp; (try with_reducible rfl)
              try simp only [Act.put, List.setIfInBounds_toArray, List.set_cons_zero, List.set_cons_succ]
              refine wpAnyH_take (i := 20) (oi := ?oi81) (v := ?v81) ?hi81 (by kernel_rfl) (by kernel_rfl) (by kernel_rfl) ?hq81 (Or.inl ⟨?hw81, ?hy81⟩) hS ?rest81
              case hi81 => simp only [List.getElem?_toArray, List.getElem?_cons_succ, List.getElem?_cons_zero]; rfl
              case hq81 => exact fun _ _ _ h => h
              case hw81 => rfl
              case hy81 => intro w hSw; (try dsimp only at hSw); go_simp; (try with_reducible rfl)
              try simp only [Act.put, List.setIfInBounds_toArray, List.set_cons_zero, List.set_cons_succ]
              refine wpAnyH_take (i := 21) (oi := ?oi82) (v := ?v82) ?hi82 (by kernel_rfl) (by kernel_rfl) (by kernel_rfl) ?hq82 (Or.inl ⟨?hw82, ?hy82⟩) hS ?rest82
              case hi82 => simp only [List.getElem?_toArray, List.getElem?_cons_succ, List.getElem?_cons_zero]; rfl
              case hq82 => exact fun _ _ _ h => h
              case hw82 => rfl
              case hy82 => intro w hSw; (try dsimp only at hSw); go_simp; (try with_reducible rfl)
              try simp only [Act.put, List.setIfInBounds_toArray, List.set_cons_zero, List.set_cons_succ]
              refine wpAnyH_done (by kernel_rfl) ?_ _
              refine NoPanic.normal ?_
              clear hS
              go_wp2_with fail
              go_roundw
              case rel => exact ⟨j + 1, by omega, by go_num, HB.out.trans ⟨rfl, rfl, rfl, Nat.le_refl _, fun _ _ => rfl⟩⟩
              case measure => simp [intOf]; omega
          · have hd3 : decide ((j : Int) < (m : Int)) = false := by simp; omega
            go_wp2_with fail
            (with_reducible refine (known13_any _).mono ?_)
            rintro e w5 ⟨rfl, hb5⟩
            have HB5 := Lib.hid hb5
            clear hb5
            go_wp2_with fail
            go_ret
            have h1 := HB2.out.trans (HB.out.mono HB2.out.size)
            exact ⟨rfl, h1.trans (HB5.out.mono h1.size)⟩
    · have hd1 : decide (k < len) = false := by simpa using hlt
      have HAL := Lib.hid HS.out.all
      obtain ⟨m, hm⟩ : ∃ m, m = (allM S).length := ⟨_, rfl⟩
      have hm8 : m ≤ 8 := by rw [hm]; unfold allM; rw [List.length_map]; exact HS.out.len
      have HMM := Lib.hid hm
      have HBW := Lib.hid HS.out.marks.below
      clear hm
      go_wp2_with fail
      (with_reducible refine HAL.out.mono ?_)
      rintro e w2 ⟨a2, cap2, he, hcap2, hr2, hb2⟩
      have he : e = .returned (.slice a2 m cap2) := by rw [HMM.out]; exact he
      subst he
      have HR2 := Lib.hid hr2
      have HB2 := Lib.hid (HBW.out.trans (hb2.mono HBW.out.size))
      clear he hcap2 hr2 hb2 HAL HBW q0 q1
      go_wp2_with fail
      go_loopw [10] (fun i wz => ∃ j : Nat, j ≤ m ∧ i = .int .i64 j ∧ Below w2.heap.size w2 wz) (fun i _ => m - (intOf i).toNat)
      case atStart => exact ⟨0, by omega, rfl, Below.refl _ _⟩
      case round =>
        obtain ⟨j, hj, rfl, hB⟩ := hrel
        have HB := Lib.hid hB
        by_cases hjm : j < m
        · have hd3 : decide ((j : Int) < (m : Int)) = true := by simpa using hjm
          have hj0 : (0 : Int) ≤ (j : Int) := by omega
          have hjm' : (j : Int) < (m : Int) := by omega
          have hjl : j < (allM S).length := by rw [← HMM.out]; exact hjm
          obtain ⟨g2, o2, rfl, _, hgw2, hcell2⟩ := HR2.out.at_ (by rw [← HMM.out]; omega)
          have z0 := HR.out.at_ j hjl
          have zc : wr.cell? ⟨g2, o2 + j, none⟩ = some (.int .i64 (allM S)[j]) := by
            refine (hB.cell (p := ⟨g2, o2 + j, none⟩) hgw2).trans ?_
            rw [hcell2 j hjl, List.getElem?_map, List.getElem?_eq_getElem hjl]; rfl
          rw [← HNX.out] at z0
          by_cases h0 : j = 0
          · have hd4 : decide ((0 : Int) < (j : Int)) = false := by simp; omega
            have hd5 : (0 < j) = False := eq_false (by omega)
            generalize (allM S)[j] = z at z0 zc
            have hd6 : decide (nx ≤ z) = false := by simp; omega
            clear h0 hcell2 hB hjl z0
            go_wp2_with fail
            refine wp_region_noPanic ?_
            refine wp_region_held_drew (S := (fun w' => w'.cell? ⟨g2, o2 + j, none⟩ = some (.int .i64 z))) (by kernel_rfl) ?_ (fun hS => ?_)
            · exact zc
            refine wpAnyH_take (i := 0) (oi := ?oi83) (v := ?v83) ?hi83 (by kernel_rfl) (by kernel_rfl) (by kernel_rfl) ?hq83 (Or.inl ⟨?hw83, ?hy83⟩) hS ?rest83
            case hi83 => simp only [List.getElem?_toArray, List.getElem?_cons_succ, List.getElem?_cons_zero]; rfl
            case hq83 => exact fun _ _ _ h => h
            case hw83 => rfl
            case hy83 => intro w hSw; (try dsimp only at hSw); go_simp; (try with_reducible rfl)
            try simp only [Act.put, List.setIfInBounds_toArray, List.set_cons_zero, List.set_cons_succ]
            refine wpAnyH_take (i := 1) (oi := ?oi84) (v := ?v84) ?hi84 (by kernel_rfl) (by kernel_rfl) (by kernel_rfl) ?hq84 (Or.inl ⟨?hw84, ?hy84⟩) hS ?rest84
            case hi84 => simp only [List.getElem?_toArray, List.getElem?_cons_succ, List.getElem?_cons_zero]; rfl
            case hq84 => exact fun _ _ _ h => h
            case hw84 => rfl
            case hy84 => intro w hSw; (try dsimp only at hSw); go_simp; (try with_reducible rfl)
            try simp only [Act.put, List.setIfInBounds_toArray, List.set_cons_zero, List.set_cons_succ]
            refine wpAnyH_take (i := 2) (oi := ?oi85) (v := ?v85) ?hi85 (by kernel_rfl) (by kernel_rfl) (by kernel_rfl) ?hq85 (Or.inl ⟨?hw85, ?hy85⟩) hS ?rest85
            case hi85 => simp only [List.getElem?_toArray, List.getElem?_cons_succ, List.getElem?_cons_zero]; rfl
            case hq85 => exact fun _ _ _ h => h
            case hw85 => rfl
            case hy85 => intro w hSw; (try dsimp only at hSw); go_simp; (try with_reducible rfl)
            try simp only [Act.put, List.setIfInBounds_toArray, List.set_cons_zero, List.set_cons_succ]
            refine wpAnyH_take (i := 3) (oi := ?oi86) (v := ?v86) ?hi86 (by kernel_rfl) (by kernel_rfl) (by kernel_rfl) ?hq86 (Or.inl ⟨?hw86, ?hy86⟩) hS ?rest86
            case hi86 => simp only [List.getElem?_toArray, List.getElem?_cons_succ, List.getElem?_cons_zero]; rfl
            case hq86 => exact fun _ _ _ h => h
            case hw86 => rfl
            case hy86 => intro w hSw; (try dsimp only at hSw); go_simp; (try with_reducible rfl)
            try simp only [Act.put, List.setIfInBounds_toArray, List.set_cons_zero, List.set_cons_succ]
            refine wpAnyH_take (i := 4) (oi := ?oi87) (v := ?v87) ?hi87 (by kernel_rfl) (by kernel_rfl) (by kernel_rfl) ?hq87 (Or.inl ⟨?hw87, ?hy87⟩) hS ?rest87
            case hi87 => simp only [List.getElem?_toArray, List.getElem?_cons_succ, List.getElem?_cons_zero]; rfl
            case hq87 => exact fun _ _ _ h => h
            case hw87 => rfl
            case hy87 => intro w hSw; (try dsimp only at hSw); go_simp; (try with_reducible rfl)
            try simp only [Act.put, List.setIfInBounds_toArray, List.set_cons_zero, List.set_cons_succ]
            refine wpAnyH_take (i := 5) (oi := ?oi88) (v := ?v88) ?hi88 (by kernel_rfl) (by kernel_rfl) (by kernel_rfl) ?hq88 (Or.inl ⟨?hw88, ?hy88⟩) hS ?rest88
            case hi88 => simp only [List.getElem?_toArray, List.getElem?_cons_succ, List.getElem?_cons_zero]; rfl
            case hq88 => exact fun _ _ _ h => h
            case hw88 => rfl
            case hy88 => intro w hSw; (try dsimp only at hSw); go_simp; (try with_reducible rfl)
            try simp only [Act.put, List.setIfInBounds_toArray, List.set_cons_zero, List.set_cons_succ]
            refine wpAnyH_take (i := 6) (oi := ?oi89) (v := ?v89) ?hi89 (by kernel_rfl) (by kernel_rfl) (by kernel_rfl) ?hq89 (Or.inl ⟨?hw89, ?hy89⟩) hS ?rest89
            case hi89 => simp only [List.getElem?_toArray, List.getElem?_cons_succ, List.getElem?_cons_zero]; rfl
            case hq89 => exact fun _ _ _ h => h
            case hw89 => rfl
            case hy89 => intro w hSw; (try dsimp only at hSw); go_simp; (try with_reducible rfl)
            try simp only [Act.put, List.setIfInBounds_toArray, List.set_cons_zero, List.set_cons_succ]
            refine wpAnyH_take (i := 7) (oi := ?oi90) (v := ?v90) ?hi90 (by kernel_rfl) (by kernel_rfl) (by kernel_rfl) ?hq90 (Or.inl ⟨?hw90, ?hy90⟩) hS ?rest90
            case hi90 => simp only [List.getElem?_toArray, List.getElem?_cons_succ, List.getElem?_cons_zero]; rfl
            case hq90 => exact fun _ _ _ h => h
            case hw90 => rfl
            case hy90 => intro w hSw; (try dsimp only at hSw); go_simp; (try with_reducible rfl)
            try simp only [Act.put, List.setIfInBounds_toArray, List.set_cons_zero, List.set_cons_succ]
            refine wpAnyH_take (i := 8) (oi := ?oi91) (v := ?v91) ?hi91 (by kernel_rfl) (by kernel_rfl) (by kernel_rfl) ?hq91 (Or.inl ⟨?hw91, ?hy91⟩) hS ?rest91
            case hi91 => simp only [List.getElem?_toArray, List.getElem?_cons_succ, List.getElem?_cons_zero]; rfl
            case hq91 => exact fun _ _ _ h => h
            case hw91 => rfl
            case hy91 => intro w hSw; (try dsimp only at hSw); go_simp; (try with_reducible rfl)
            try simp only [Act.put, List.setIfInBounds_toArray, List.set_cons_zero, List.set_cons_succ]
            refine wpAnyH_take (i := 9) (oi := ?oi92) (v := ?v92) ?hi92 (by kernel_rfl) (by kernel_rfl) (by kernel_rfl) ?hq92 (Or.inl ⟨?hw92, ?hy92⟩) hS ?rest92
            case hi92 => simp only [List.getElem?_toArray, List.getElem?_cons_succ, List.getElem?_cons_zero]; rfl
            case hq92 => exact fun _ _ _ h => h
            case hw92 => rfl
            case hy92 => intro w hSw; (try dsimp only at hSw); go_simp; (try with_reducible rfl)
            try simp only [Act.put, List.setIfInBounds_toArray, List.set_cons_zero, List.set_cons_succ]
            refine wpAnyH_take (i := 10) (oi := ?oi93) (v := undef) ?hi93 (by kernel_rfl) (by kernel_rfl) (by kernel_rfl) ?hq93 (Or.inr ⟨?hw93, rfl⟩) hS ?rest93
            case hi93 => simp only [List.getElem?_toArray, List.getElem?_cons_succ, List.getElem?_cons_zero]; rfl
            case hq93 => exact fun _ _ _ h => h
            case hw93 => rfl
            try simp only [Act.put, List.setIfInBounds_toArray, List.set_cons_zero, List.set_cons_succ]
            refine wpAnyH_take (i := 11) (oi := ?oi94) (v := undef) ?hi94 (by kernel_rfl) (by kernel_rfl) (by kernel_rfl) ?hq94 (Or.inr ⟨?hw94, rfl⟩) hS ?rest94
            case hi94 => simp only [List.getElem?_toArray, List.getElem?_cons_succ, List.getElem?_cons_zero]; rfl
            case hq94 => exact fun _ _ _ h => h
            case hw94 => rfl
            try simp only [Act.put, List.setIfInBounds_toArray, List.set_cons_zero, List.set_cons_succ]
            refine wpAnyH_take (i := 12) (oi := ?oi95) (v := undef) ?hi95 (by kernel_rfl) (by kernel_rfl) (by kernel_rfl) ?hq95 (Or.inr ⟨?hw95, rfl⟩) hS ?rest95
            case hi95 => simp only [List.getElem?_toArray, List.getElem?_cons_succ, List.getElem?_cons_zero]; rfl
            case hq95 => exact fun _ _ _ h => h
            case hw95 => rfl
            try simp only [Act.put, List.setIfInBounds_toArray, List.set_cons_zero, List.set_cons_succ]
            refine wpAnyH_take (i := 13) (oi := ?oi96) (v := undef) ?hi96 (by kernel_rfl) (by kernel_rfl) (by kernel_rfl) ?hq96 (Or.inr ⟨?hw96, rfl⟩) hS ?rest96
            case hi96 => simp only [List.getElem?_toArray, List.getElem?_cons_succ, List.getElem?_cons_zero]; rfl
            case hq96 => exact fun _ _ _ h => h
            case hw96 => rfl
            try simp only [Act.put, List.setIfInBounds_toArray, List.set_cons_zero, List.set_cons_succ]
            refine wpAnyH_take (i := 14) (oi := ?oi97) (v := undef) ?hi97 (by kernel_rfl) (by kernel_rfl) (by kernel_rfl) ?hq97 (Or.inr ⟨?hw97, rfl⟩) hS ?rest97
            case hi97 => simp only [List.getElem?_toArray, List.getElem?_cons_succ, List.getElem?_cons_zero]; rfl
            case hq97 => exact fun _ _ _ h => h
            case hw97 => rfl
            try simp only [Act.put, List.setIfInBounds_toArray, List.set_cons_zero, List.set_cons_succ]
            refine wpAnyH_take (i := 15) (oi := ?oi98) (v := undef) ?hi98 (by kernel_rfl) (by kernel_rfl) (by kernel_rfl) ?hq98 (Or.inr ⟨?hw98, rfl⟩) hS ?rest98
            case hi98 => simp only [List.getElem?_toArray, List.getElem?_cons_succ, List.getElem?_cons_zero]; rfl
            case hq98 => exact fun _ _ _ h => h
            case hw98 => rfl
            try simp only [Act.put, List.setIfInBounds_toArray, List.set_cons_zero, List.set_cons_succ]
            refine wpAnyH_take (i := 16) (oi := ?oi99) (v := undef) ?hi99 (by kernel_rfl) (by kernel_rfl) (by kernel_rfl) ?hq99 (Or.inr ⟨?hw99, rfl⟩) hS ?rest99
            case hi99 => simp only [List.getElem?_toArray, List.getElem?_cons_succ, List.getElem?_cons_zero]; rfl
            case hq99 => exact fun _ _ _ h => h
            case hw99 => rfl
            try simp only [Act.put, List.setIfInBounds_toArray, List.set_cons_zero, List.set_cons_succ]
            refine wpAnyH_take (i := 17) (oi := ?oi100) (v := undef) ?hi100 (by kernel_rfl) (by kernel_rfl) (by kernel_rfl) ?hq100 (Or.inr ⟨?hw100, rfl⟩) hS ?rest100
            case hi100 => simp only [List.getElem?_toArray, List.getElem?_cons_succ, List.getElem?_cons_zero]; rfl
            case hq100 => exact fun _ _ _ h => h
            case hw100 => rfl
            try simp only [Act.put, List.setIfInBounds_toArray, List.set_cons_zero, List.set_cons_succ]
            refine wpAnyH_take (i := 18) (oi := ?oi101) (v := undef) ?hi101 (by kernel_rfl) (by kernel_rfl) (by kernel_rfl) ?hq101 (Or.inr ⟨?hw101, rfl⟩) hS ?rest101
            case hi101 => simp only [List.getElem?_toArray, List.getElem?_cons_succ, List.getElem?_cons_zero]; rfl
            case hq101 => exact fun _ _ _ h => h
            case hw101 => rfl
            try simp only [Act.put, List.setIfInBounds_toArray, List.set_cons_zero, List.set_cons_succ]
            refine wpAnyH_take (i := 19) (oi := ?oi102) (v := undef) ?hi102 (by kernel_rfl) (by kernel_rfl) (by kernel_rfl) ?hq102 (Or.inr ⟨?hw102, rfl⟩) hS ?rest102
            case hi102 => simp only [List.getElem?_toArray, List.getElem?_cons_succ, List.getElem?_cons_zero]; rfl
            case hq102 => exact fun _ _ _ h => h
            case hw102 => rfl
            try simp only [Act.put, List.setIfInBounds_toArray, List.set_cons_zero, List.set_cons_succ]
            refine wpAnyH_take (i := 20) (oi := ?oi103) (v := ?v103) ?hi103 (by kernel_rfl) (by kernel_rfl) (by kernel_rfl) ?hq103 (Or.inl ⟨?hw103, ?hy103⟩) hS ?rest103
            case hi103 => simp only [List.getElem?_toArray, List.getElem?_cons_succ, List.getElem?_cons_zero]; rfl
            case hq103 => exact fun _ _ _ h => h
            case hw103 => rfl
            case hy103 => intro w hSw; (try dsimp only at hSw); go_simp; (try with_reducible rfl)
            try simp only [Act.put, List.setIfInBounds_toArray, List.set_cons_zero, List.set_cons_succ]
            refine wpAnyH_take (i := 21) (oi := ?oi104) (v := ?v104) ?hi104 (by kernel_rfl) (by kernel_rfl) (by kernel_rfl) ?hq104 (Or.inl ⟨?hw104, ?hy104⟩) hS ?rest104
            case hi104 => simp only [List.getElem?_toArray, List.getElem?_cons_succ, List.getElem?_cons_zero]; rfl
            case hq104 => exact fun _ _ _ h => h
            case hw104 => rfl
            case hy104 => intro w hSw; (try dsimp only at hSw); go_simp; (try with_reducible rfl)
            try simp only [Act.put, List.setIfInBounds_toArray, List.set_cons_zero, List.set_cons_succ]
            refine wpAnyH_done (by kernel_rfl) ?_ _
            refine NoPanic.normal ?_
            clear hS
            go_wp2_with fail
            go_roundw
            case rel => exact ⟨j + 1, by omega, by go_num, HB.out.trans ⟨rfl, rfl, rfl, Nat.le_refl _, fun _ _ => rfl⟩⟩
            case measure => simp [intOf]; omega
          · obtain ⟨i, hi⟩ : ∃ i, j = i + 1 := ⟨j - 1, by omega⟩
            have hil : i < (allM S).length := by omega
            have zd : wr.cell? ⟨g2, o2 + i, none⟩ = some (.int .i64 (allM S)[i]) := by
              refine (hB.cell (p := ⟨g2, o2 + i, none⟩) hgw2).trans ?_
              rw [hcell2 i hil, List.getElem?_map, List.getElem?_eq_getElem hil]; rfl
            have hlt9 : (allM S)[i] < (allM S)[j] := by
              have := HR.out.next_ i (by omega)
              simp only [hi]
              exact this
            have hd4 : decide ((0 : Int) < (j : Int)) = true := by simp; omega
            have hd5 : (0 < j) = True := eq_true (by omega)
            generalize (allM S)[j] = z at z0 zc hlt9
            generalize (allM S)[i] = y at zd hlt9
            have hd6 : decide (nx ≤ z) = false := by simp; omega
            have hd7 : decide (z ≤ y) = false := by simp; omega
            have hwi : IntKind.i64.wrap ((j : Int) - 1) = (i : Int) := by
              rw [show (j : Int) - 1 = (i : Int) by omega]
              exact IntWalk.i64_in _ (by omega)
            have hi0 : (0 : Int) ≤ (i : Int) := by omega
            have hin : (i : Int) < (m : Int) := by omega
            clear h0 hcell2 hB hjl z0 hil hlt9 hi
            go_wp2_with fail
            refine wp_region_noPanic ?_
            refine wp_region_held_drew (S := (fun w' => w'.cell? ⟨g2, o2 + j, none⟩ = some (.int .i64 z) ∧ w'.cell? ⟨g2, o2 + i, none⟩ = some (.int .i64 y))) (by kernel_rfl) ?_ (fun hS => ?_)
            · exact ⟨zc, zd⟩
            refine wpAnyH_take (i := 0) (oi := ?oi105) (v := ?v105) ?hi105 (by kernel_rfl) (by kernel_rfl) (by kernel_rfl) ?hq105 (Or.inl ⟨?hw105, ?hy105⟩) hS ?rest105
            case hi105 => simp only [List.getElem?_toArray, List.getElem?_cons_succ, List.getElem?_cons_zero]; rfl
            case hq105 => exact fun _ _ _ h => h
            case hw105 => rfl
            case hy105 => intro w hSw; (try dsimp only at hSw); go_simp; (try with_reducible rfl)
            try simp only [Act.put, List.setIfInBounds_toArray, List.set_cons_zero, List.set_cons_succ]
            refine wpAnyH_take (i := 1) (oi := ?oi106) (v := ?v106) ?hi106 (by kernel_rfl) (by kernel_rfl) (by kernel_rfl) ?hq106 (Or.inl ⟨?hw106, ?hy106⟩) hS ?rest106
            case hi106 => simp only [List.getElem?_toArray, List.getElem?_cons_succ, List.getElem?_cons_zero]; rfl
            case hq106 => exact fun _ _ _ h => h
            case hw106 => rfl
            case hy106 => intro w hSw; (try dsimp only at hSw); go_simp; (try with_reducible rfl)
            try simp only [Act.put, List.setIfInBounds_toArray, List.set_cons_zero, List.set_cons_succ]
            refine wpAnyH_take (i := 2) (oi := ?oi107) (v := ?v107) ?hi107 (by kernel_rfl) (by kernel_rfl) (by kernel_rfl) ?hq107 (Or.inl ⟨?hw107, ?hy107⟩) hS ?rest107
            case hi107 => simp only [List.getElem?_toArray, List.getElem?_cons_succ, List.getElem?_cons_zero]; rfl
            case hq107 => exact fun _ _ _ h => h
            case hw107 => rfl
            case hy107 => intro w hSw; (try dsimp only at hSw); go_simp; (try with_reducible rfl)
            try simp only [Act.put, List.setIfInBounds_toArray, List.set_cons_zero, List.set_cons_succ]
            refine wpAnyH_take (i := 3) (oi := ?oi108) (v := ?v108) ?hi108 (by kernel_rfl) (by kernel_rfl) (by kernel_rfl) ?hq108 (Or.inl ⟨?hw108, ?hy108⟩) hS ?rest108
            case hi108 => simp only [List.getElem?_toArray, List.getElem?_cons_succ, List.getElem?_cons_zero]; rfl
            case hq108 => exact fun _ _ _ h => h
            case hw108 => rfl
            case hy108 => intro w hSw; (try dsimp only at hSw); go_simp; (try with_reducible rfl)
            try simp only [Act.put, List.setIfInBounds_toArray, List.set_cons_zero, List.set_cons_succ]
            refine wpAnyH_take (i := 4) (oi := ?oi109) (v := ?v109) ?hi109 (by kernel_rfl) (by kernel_rfl) (by kernel_rfl) ?hq109 (Or.inl ⟨?hw109, ?hy109⟩) hS ?rest109
            case hi109 => simp only [List.getElem?_toArray, List.getElem?_cons_succ, List.getElem?_cons_zero]; rfl
            case hq109 => exact fun _ _ _ h => h
            case hw109 => rfl
            case hy109 => intro w hSw; (try dsimp only at hSw); go_simp; (try with_reducible rfl)
            try simp only [Act.put, List.setIfInBounds_toArray, List.set_cons_zero, List.set_cons_succ]
            refine wpAnyH_take (i := 5) (oi := ?oi110) (v := ?v110) ?hi110 (by kernel_rfl) (by kernel_rfl) (by kernel_rfl) ?hq110 (Or.inl ⟨?hw110, ?hy110⟩) hS ?rest110
            case hi110 => simp only [List.getElem?_toArray, List.getElem?_cons_succ, List.getElem?_cons_zero]; rfl
            case hq110 => exact fun _ _ _ h => h
            case hw110 => rfl
            case hy110 => intro w hSw; (try dsimp only at hSw); go_simp; (try with_reducible rfl)
            try simp only [Act.put, List.setIfInBounds_toArray, List.set_cons_zero, List.set_cons_succ]
            refine wpAnyH_take (i := 6) (oi := ?oi111) (v := ?v111) ?hi111 (by kernel_rfl) (by kernel_rfl) (by kernel_rfl) ?hq111 (Or.inl ⟨?hw111, ?hy111⟩) hS ?rest111
            case hi111 => simp only [List.getElem?_toArray, List.getElem?_cons_succ, List.getElem?_cons_zero]; rfl
            case hq111 => exact fun _ _ _ h => h
            case hw111 => rfl
            case hy111 => intro w hSw; (try dsimp only at hSw); go_simp; (try with_reducible rfl)
            try simp only [Act.put, List.setIfInBounds_toArray, List.set_cons_zero, List.set_cons_succ]
            refine wpAnyH_take (i := 7) (oi := ?oi112) (v := ?v112) ?hi112 (by kernel_rfl) (by kernel_rfl) (by kernel_rfl) ?hq112 (Or.inl ⟨?hw112, ?hy112⟩) hS ?rest112
            case hi112 => simp only [List.getElem?_toArray, List.getElem?_cons_succ, List.getElem?_cons_zero]; rfl
            case hq112 => exact fun _ _ _ h => h
            case hw112 => rfl
            case hy112 => intro w hSw; (try dsimp only at hSw); go_simp; (try with_reducible rfl)
            try simp only [Act.put, List.setIfInBounds_toArray, List.set_cons_zero, List.set_cons_succ]
            refine wpAnyH_take (i := 8) (oi := ?oi113) (v := ?v113) ?hi113 (by kernel_rfl) (by kernel_rfl) (by kernel_rfl) ?hq113 (Or.inl ⟨?hw113, ?hy113⟩) hS ?rest113
            case hi113 => simp only [List.getElem?_toArray, List.getElem?_cons_succ, List.getElem?_cons_zero]; rfl
            case hq113 => exact fun _ _ _ h => h
            case hw113 => rfl
            case hy113 => intro w hSw; (try dsimp only at hSw); go_simp; (try with_reducible rfl)
            try simp only [Act.put, List.setIfInBounds_toArray, List.set_cons_zero, List.set_cons_succ]
            refine wpAnyH_take (i := 9) (oi := ?oi114) (v := ?v114) ?hi114 (by kernel_rfl) (by kernel_rfl) (by kernel_rfl) ?hq114 (Or.inl ⟨?hw114, ?hy114⟩) hS ?rest114
            case hi114 => simp only [List.getElem?_toArray, List.getElem?_cons_succ, List.getElem?_cons_zero]; rfl
            case hq114 => exact fun _ _ _ h => h
            case hw114 => rfl
            case hy114 => intro w hSw; (try dsimp only at hSw); go_simp; (try with_reducible rfl)
            try simp only [Act.put, List.setIfInBounds_toArray, List.set_cons_zero, List.set_cons_succ]
            refine wpAnyH_take (i := 10) (oi := ?oi115) (v := ?v115) ?hi115 (by kernel_rfl) (by kernel_rfl) (by kernel_rfl) ?hq115 (Or.inl ⟨?hw115, ?hy115⟩) hS ?rest115
            case hi115 => simp only [List.getElem?_toArray, List.getElem?_cons_succ, List.getElem?_cons_zero]; rfl
            case hq115 => exact fun _ _ _ h => h
            case hw115 => rfl
            case hy115 => intro w hSw; (try dsimp only at hSw); go_simp; (try with_reducible rfl)
            try simp only [Act.put, List.setIfInBounds_toArray, List.set_cons_zero, List.set_cons_succ]
            refine wpAnyH_take (i := 11) (oi := ?oi116) (v := ?v116) ?hi116 (by kernel_rfl) (by kernel_rfl) (by kernel_rfl) ?hq116 (Or.inl ⟨?hw116, ?hy116⟩) hS ?rest116
            case hi116 => simp only [List.getElem?_toArray, List.getElem?_cons_succ, List.getElem?_cons_zero]; rfl
            case hq116 => exact fun _ _ _ h => h
            case hw116 => rfl
            case hy116 => intro w hSw; (try dsimp only at hSw); go_simp; (try with_reducible rfl)
            try simp only [Act.put, List.setIfInBounds_toArray, List.set_cons_zero, List.set_cons_succ]
            refine wpAnyH_take (i := 12) (oi := ?oi117) (v := ?v117) ?hi117 (by kernel_rfl) (by kernel_rfl) (by kernel_rfl) ?hq117 (Or.inl ⟨?hw117, ?hy117⟩) hS ?rest117
            case hi117 => simp only [List.getElem?_toArray, List.getElem?_cons_succ, List.getElem?_cons_zero]; rfl
            case hq117 => exact fun _ _ _ h => h
            case hw117 => rfl
            case hy117 => intro w hSw; (try dsimp only at hSw); go_simp; (try with_reducible rfl)
            try simp only [Act.put, List.setIfInBounds_toArray, List.set_cons_zero, List.set_cons_succ]
            refine wpAnyH_take (i := 13) (oi := ?oi118) (v := ?v118) ?hi118 (by kernel_rfl) (by kernel_rfl) (by kernel_rfl) ?hq118 (Or.inl ⟨?hw118, ?hy118⟩) hS ?rest118
            case hi118 => simp only [List.getElem?_toArray, List.getElem?_cons_succ, List.getElem?_cons_zero]; rfl
            case hq118 => exact fun _ _ _ h => h
            case hw118 => rfl
            case hy118 => intro w hSw; (try dsimp only at hSw); go_simp; (try with_reducible rfl)
            try simp only [Act.put, List.setIfInBounds_toArray, List.set_cons_zero, List.set_cons_succ]
            refine wpAnyH_take (i := 14) (oi := ?oi119) (v := ?v119) ?hi119 (by kernel_rfl) (by kernel_rfl) (by kernel_rfl) ?hq119 (Or.inl ⟨?hw119, ?hy119⟩) hS ?rest119
            case hi119 => simp only [List.getElem?_toArray, List.getElem?_cons_succ, List.getElem?_cons_zero]; rfl
            case hq119 => exact fun _ _ _ h => h
            case hw119 => rfl
            case hy119 => intro w hSw; (try dsimp only at hSw); go_simp; (try with_reducible rfl)
            try simp only [Act.put, List.setIfInBounds_toArray, List.set_cons_zero, List.set_cons_succ]
            refine wpAnyH_take (i := 15) (oi := ?oi120) (v := ?v120) ?hi120 (by kernel_rfl) (by kernel_rfl) (by kernel_rfl) ?hq120 (Or.inl ⟨?hw120, ?hy120⟩) hS ?rest120
            case hi120 => simp only [List.getElem?_toArray, List.getElem?_cons_succ, List.getElem?_cons_zero]; rfl
            case hq120 => exact fun _ _ _ h => h
            case hw120 => rfl
            case hy120 => intro w hSw; (try dsimp only at hSw); go_simp; (try with_reducible rfl)
            try simp only [Act.put, List.setIfInBounds_toArray, List.set_cons_zero, List.set_cons_succ]
            refine wpAnyH_take (i := 16) (oi := ?oi121) (v := ?v121) ?hi121 (by kernel_rfl) (by kernel_rfl) (by kernel_rfl) ?hq121 (Or.inl ⟨?hw121, ?hy121⟩) hS ?rest121
            case hi121 => simp only [List.getElem?_toArray, List.getElem?_cons_succ, List.getElem?_cons_zero]; rfl
            case hq121 => exact fun _ _ _ h => h
            case hw121 => rfl
            case hy121 => intro w hSw; (try dsimp only at hSw); go_simp; (try with_reducible rfl)
            try simp only [Act.put, List.setIfInBounds_toArray, List.set_cons_zero, List.set_cons_succ]
            refine wpAnyH_take (i := 17) (oi := ?oi122) (v := ?v122) ?hi122 (by kernel_rfl) (by kernel_rfl) (by kernel_rfl) ?hq122 (Or.inl ⟨?hw122, ?hy122⟩) hS ?rest122
            case hi122 => simp only [List.getElem?_toArray, List.getElem?_cons_succ, List.getElem?_cons_zero]; rfl
            case hq122 => exact fun _ _ _ h => h
            case hw122 => rfl
            case hy122 => intro w hSw; (try dsimp only at hSw); go_simp; (try with_reducible rfl)
            try simp only [Act.put, List.setIfInBounds_toArray, List.set_cons_zero, List.set_cons_succ]
            refine wpAnyH_take (i := 18) (oi := ?oi123) (v := ?v123) ?hi123 (by kernel_rfl) (by kernel_rfl) (by kernel_rfl) ?hq123 (Or.inl ⟨?hw123, ?hy123⟩) hS ?rest123
            case hi123 => simp only [List.getElem?_toArray, List.getElem?_cons_succ, List.getElem?_cons_zero]; rfl
            case hq123 => exact fun _ _ _ h => h
            case hw123 => rfl
            case hy123 => intro w hSw; (try dsimp only at hSw); go_simp; (try with_reducible rfl)
            try simp only [Act.put, List.setIfInBounds_toArray, List.set_cons_zero, List.set_cons_succ]
            refine wpAnyH_take (i := 19) (oi := ?oi124) (v := ?v124) ?hi124 (by kernel_rfl) (by kernel_rfl) (by kernel_rfl) ?hq124 (Or.inl ⟨?hw124, ?hy124⟩) hS ?rest124
            case hi124 => simp only [List.getElem?_toArray, List.getElem?_cons_succ, List.getElem?_cons_zero]; rfl
            case hq124 => exact fun _ _ _ h => h
            case hw124 => rfl
            case hy124 => intro w hSw; (try dsimp only at hSw); go_simp; (try with_reducible rfl)
            try simp only [Act.put, List.setIfInBounds_toArray, List.set_cons_zero, List.set_cons_succ]
            refine wpAnyH_take (i := 20) (oi := ?oi125) (v := ?v125) ?hi125 (by kernel_rfl) (by kernel_rfl) (by kernel_rfl) ?hq125 (Or.inl ⟨?hw125, ?hy125⟩) hS ?rest125
            case hi125 => simp only [List.getElem?_toArray, List.getElem?_cons_succ, List.getElem?_cons_zero]; rfl
            case hq125 => exact fun _ _ _ h => h
            case hw125 => rfl
            case hy125 => intro w hSw; (try dsimp only at hSw); go_simp; (try with_reducible rfl)
            try simp only [Act.put, List.setIfInBounds_toArray, List.set_cons_zero, List.set_cons_succ]
            refine wpAnyH_take (i := 21) (oi := ?oi126) (v := ?v126) ?hi126 (by kernel_rfl) (by kernel_rfl) (by kernel_rfl) ?hq126 (Or.inl ⟨?hw126, ?hy126⟩) hS ?rest126
            case hi126 => simp only [List.getElem?_toArray, List.getElem?_cons_succ, List.getElem?_cons_zero]; rfl
            case hq126 => exact fun _ _ _ h => h
            case hw126 => rfl
            case hy126 => intro w hSw; (try dsimp only at hSw); go_simp; (try with_reducible rfl)
            try simp only [Act.put, List.setIfInBounds_toArray, List.set_cons_zero, List.set_cons_succ]
            refine wpAnyH_done (by kernel_rfl) ?_ _
            refine NoPanic.normal ?_
            clear hS
            go_wp2_with fail
            go_roundw
            case rel => exact ⟨j + 1, by omega, by go_num, HB.out.trans ⟨rfl, rfl, rfl, Nat.le_refl _, fun _ _ => rfl⟩⟩
            case measure => simp [intOf]; omega
        · have hd3 : decide ((j : Int) < (m : Int)) = false := by simp; omega
          go_wp2_with fail
          (with_reducible refine (known13_any _).mono ?_)
          rintro e w5 ⟨rfl, hb5⟩
          have HB5 := Lib.hid hb5
          clear hb5
          go_wp2_with fail
          go_ret
          have h1 := HB2.out.trans (HB.out.mono HB2.out.size)
          exact ⟨rfl, h1.trans (HB5.out.mono h1.size)⟩

end Go.Proofs.YtpgklnhkfgbpgaaGreat.snapIds
