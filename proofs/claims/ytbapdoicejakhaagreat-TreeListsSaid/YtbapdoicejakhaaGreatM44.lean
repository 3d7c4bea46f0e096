/- TreeLists: the walk. -/
import Derived.Test.YtbapdoicejakhaaGreatM43
namespace Go.Proofs.YtbapdoicejakhaaGreat.treeLists
open Go.ChangeShapes Go.WideShapes Go.ChangeAt Go.RowKit
set_option linter.unusedVariables false
set_option linter.unusedSimpArgs false

theorem id_less {k : Nat} (h : k < 64) : 64 - (intOf (.int .i64 ((k : Int) + 1))).toNat < 64 - (intOf (.int .i64 (k : Int))).toNat := by
  simp only [intOf]
  omega
set_option maxRecDepth 100000 in
set_option maxHeartbeats 32000000 in
theorem walk {H : Type} {enc : TypeId × Value → H} (W : World) (base : Nat) (v0 : Value) (d0 : DataW H) (p0 : List MemPlace) (o0 : Value.okWide Tryz.prog W .any base 22 v0) (h0 : DataW.Trod enc Tryz.prog W 0 (fun _ => true) true 22 v0 d0 p0) (l0 : ∀ x ∈ p0, x.block < W.heap.size) (hsz : (DataW.weightsEach Tryz.prog [22] ([d0] : List (DataW H))).all (· ≤ reachBytes) = true) :
    Calls Tryz.prog 8 #[v0] W (Fine W) := by
  obtain ⟨a, len, cap, rfl, hlc, hA⟩ : ∃ a len cap, v0 = .slice a len cap ∧ len ≤ cap ∧ AsksT W a len := by
    obtain ⟨a0, len, cap, rfl⟩ := okWide_slice Tryz.underlying22 o0
    obtain ⟨fuel, hf⟩ := h0
    refine open_asks11 hf l0 fun n hn => ?_
    have h1 := List.all_eq_true.1 hsz n (List.mem_append_left _ hn)
    simpa using h1
  have HPL := Lib.hid (played_any a len cap hA (Below.refl W.heap.size W))
  obtain ⟨Ts, hi⟩ := info_parts infoStrN
  have HI := Lib.hid hi
  clear o0 h0 l0 hsz hlc hA hi
  go_enter Tryz.func8, Tryz.ntmps8
  go_wp2_with fail
  (with_reducible refine HPL.out.mono ?_)
  rintro e w1 ⟨t, r, rfl, T, ⟨P, F, hBP⟩, hb1⟩
  have HT := Lib.hid hBP.tree
  have HO := Lib.hid hBP.okay
  have HB1 := Lib.hid hBP.tree.below
  clear hBP hb1 HPL
  go_wp2_with fail
  go_loopw [5] (fun v wr => ∃ k : Nat, k ≤ 64 ∧ v = .int .i64 k ∧ Below w1.heap.size w1 wr) (fun v _ => 64 - (intOf v).toNat)
  case atStart => exact ⟨0, by omega, rfl, Below.refl _ _⟩
  case round =>
    obtain ⟨k, hk, rfl, hB⟩ := hrel
    have HB := Lib.hid hB
    have hBs := hB.size
    clear hB
    by_cases hlt : k < 64
    · have hd1 : decide ((k : Int) < 64) = true := by simp; omega
      have hiw : (Lit.int .i64 (k : Int)).wf = true := by simp [Lit.wf, IntKind.min, IntKind.max, IntKind.signed, IntKind.bits]; omega
      have HIW := Lib.hid hiw
      have e2 : IntKind.i64.wrap ((k : Int) + 1) = (k : Int) + 1 := IntWalk.i64_in _ (by omega)
      have HND := Lib.hid (in_node (HT.out.grow HB.out) (k : Int) hiw)
      have HLS := Lib.hid (fun (w' : World) (hb : Below w1.heap.size w1 w') => in_list (HT.out.grow hb) (k : Int) hiw)
      have HKL := Lib.hid hlt
      clear hiw hk hlt
      cases hx : aget (k : Int) T with
      | none =>
        obtain ⟨n0, n1, n2, n3, n4, n5, hnd⟩ := node_agg T (k : Int)
        rw [hnd, hx] at HND
        rw [list_none hx] at HLS
        simp only [Option.isSome_none] at HND
        clear hx hnd
        go_wp2_with fail
        (with_reducible refine HND.out.mono ?_)
        rintro e w2 ⟨rfl, hb2⟩
        have HB2 := Lib.hid (HB.out.trans (hb2.mono hBs))
        have HB3 := Lib.hid (HB2.out.alloc HB2.out.size (.cells #[.int .i64 n0, .int .i64 n1, .int .i64 n2, .int .i64 n3, .int .u64 n4, .bool n5] 29))
        clear hb2
        go_wp2_with fail
        (with_reducible refine (HLS.out _ HB3.out).mono ?_)
        rintro e w3 ⟨a3, c3, rfl, -, -, hb3⟩
        have z1 := (hb3.cell (p := ⟨w2.heap.size, 1, none⟩) (by simp)).trans (item_block (MapKept.heap_alloc w2 _).1 1)
        simp only [List.getElem?_toArray, List.getElem?_cons_succ, List.getElem?_cons_zero] at z1
        have HB4 := Lib.hid (HB3.out.trans (hb3.mono HB3.out.size))
        clear hb3
        go_wp2_with fail
        go_roundw
        case rel => exact ⟨k + 1, HKL.out, rfl, HB4.out⟩
        case measure => exact id_less HKL.out
      | some x =>
        by_cases hk2 : x.kind = 2
        · obtain ⟨q, hq, hql, hqs, hq8⟩ := sole_name HO.out.1 hx hk2
          have hnode : nodeM T (k : Int) = .agg #[.int .i64 (k : Int), .int .i64 2, .int .i64 x.links, .int .i64 x.b.length, .int .u64 x.til, .bool x.closed] := by
            have h1 : nodeM T (k : Int) = nodeV (k : Int) x := by unfold nodeM; rw [hx]
            rw [h1]
            unfold nodeV
            rw [hk2]
          rw [hnode, hx] at HND
          simp only [Option.isSome_some] at HND
          have hna := fun (w' : World) (hb : Below w1.heap.size w1 w') => in_names (HT.out.grow hb) HO.out.1 (k : Int)
          rw [hq] at hna
          have HNA := Lib.hid hna
          rw [list_dir hx hk2] at HLS
          have hrise := fun i a b => names_rise HO.out.1 hx (i := i) (a := a) (b := b)
          have hlook : ∀ nm ∈ x.names.map (·.1), (lookE T (q ++ [nm])).2 = 0 ∧ nm.length ≤ maxLen := fun nm hnm => by
            obtain ⟨e, he, rfl⟩ := List.mem_map.1 hnm
            have := goodL_len ((HO.out.1.1.each _ x hx).good e he)
            exact ⟨by rw [look_name HO.out.1 hx hk2 hql he], by unfold maxLen; omega⟩
          have HNONE := Lib.hid (look_nomore HO.out hx hk2 hql)
          generalize x.names.map (·.1) = NL at HLS hrise hlook
          obtain ⟨n, hn⟩ : ∃ n, n = NL.length := ⟨_, rfl⟩
          have HNN := Lib.hid hn
          have HRISE := Lib.hid hrise
          have HLOOK := Lib.hid hlook
          have HQM : Hid (∀ z ∈ q, z.length ≤ maxLen) := fun z hz => by have := hqs.2 z hz; unfold maxLen; omega
          have HLS2 : Hid (∀ w', Below w1.heap.size w1 w' → Calls Tryz.prog 49 #[ptr t, .int .i64 (k : Int)] w' fun e w'' => ∃ a c, e = .returned (.tuple #[.slice a n c, .int .i64 0]) ∧ n ≤ c ∧ StrsAt (fun x => w'.heap.size ≤ x ∧ x < w''.heap.size) w'' a n (NL.map strOf) ∧ Below w'.heap.size w' w'') := fun w' hb => by
            rw [hn]
            exact HLS.out w' hb
          clear hx hk2 hq hql hqs hnode hna hrise hlook hn HLS
          go_wp2_with fail
          (with_reducible refine HND.out.mono ?_)
          rintro e w2 ⟨rfl, hb2⟩
          have HB2 := Lib.hid (HB.out.trans (hb2.mono hBs))
          have HB3 := Lib.hid (HB2.out.alloc HB2.out.size (.cells #[.int .i64 (k : Int), .int .i64 2, .int .i64 x.links, .int .i64 x.b.length, .int .u64 x.til, .bool x.closed] 29))
          clear hb2
          go_wp2_with fail
          (with_reducible refine (HLS2.out _ HB3.out).mono ?_)
          rintro e w3 ⟨a8, c8, rfl, hc8, hs8, hb3⟩
          have z1 := (hb3.cell (p := ⟨w2.heap.size, 1, none⟩) (by simp)).trans (item_block (MapKept.heap_alloc w2 _).1 1)
          simp only [List.getElem?_toArray, List.getElem?_cons_succ, List.getElem?_cons_zero] at z1
          have HB4 := Lib.hid (HB3.out.trans (hb3.mono HB3.out.size))
          have HS8 := Lib.hid hs8
          clear hb3 hs8
          go_wp2_with fail
          (with_reducible refine (HNA.out _ HB4.out).mono ?_)
          rintro e w6 ⟨a10, c10, vals, l, rfl, hc10, hp, hv, hr, hb6⟩
          obtain rfl : l = [q] := List.perm_singleton.1 hp
          obtain ⟨u, hu, aq, cq, rfl, hcq, hsq⟩ := hv.2 0 q rfl
          obtain ⟨b10, o10, rfl, hS10, hb10, hcc⟩ := hr.at_ (show 0 < 1 by decide)
          have zu : w6.cell? ⟨b10, o10, none⟩ = some (.slice aq q.length cq) := (hcc 0 (show 0 < 1 by decide)).trans hu
          have HB6 := Lib.hid (HB4.out.trans (hb6.mono HB4.out.size))
          have HS6 := Lib.hid (HS8.out.below hb6 (Nat.le_refl _))
          have HSQ := Lib.hid hsq
          have hs6 := hb6.size
          have hnl := HS6.out.row.small
          unfold maxLen at hnl
          simp only [List.length_singleton] at hc10 ⊢
          clear hp hv hr hb6 hu hcc hsq HS8
          go_wp2_with fail
          go_loopw [11] (fun i wr => ∃ j : Nat, j ≤ n ∧ i = .int .i64 j ∧ Below w6.heap.size w6 wr) (fun i _ => n - (intOf i).toNat)
          case atStart => exact ⟨0, by omega, rfl, Below.refl _ _⟩
          case round =>
            obtain ⟨j, hj, rfl, hBj⟩ := hrel
            have HBJ := Lib.hid hBj
            have hsj := hBj.size
            clear hBj
            by_cases hjn : j < n
            · have hd3 : decide ((j : Int) < (n : Int)) = true := by simpa using hjn
              have hj0 : (0 : Int) ≤ (j : Int) := by omega
              have hjn' : (j : Int) < (n : Int) := by omega
              obtain ⟨b8, o8, s, rfl, hS8, hb8w, hs, hsl, hc8c⟩ := (HS6.out.below HBJ.out (Nat.le_refl _)).cell j hjn
              obtain ⟨nm, hnm, rfl⟩ : ∃ nm, NL[j]? = some nm ∧ strOf nm = s := by
                rw [List.getElem?_map] at hs
                cases h9 : NL[j]? with
                | none => rw [h9] at hs; cases hs
                | some nm => rw [h9] at hs; exact ⟨nm, rfl, by simpa using hs⟩
              have HNM := Lib.hid hnm
              have zu2 := (HBJ.out.cell (p := ⟨b10, o10, none⟩) hb10).trans zu
              clear hs hsl hnm
              by_cases h0 : j = 0
              · have hd4 : decide ((0 : Int) < (j : Int)) = false := by simp; omega
                have hd5 : (0 < j) = False := eq_false (by omega)
                clear h0
                go_wp2_with fail
                refine wp_region_noPanic ?_
                refine wp_region_held_drew (S := (fun _ => True)) (by kernel_rfl) ?_ (fun hS => ?_)
                · trivial
                refine wpAnyH_take (i := 0) (oi := ?oi1) (v := ?v1) ?hi1 (by kernel_rfl) (by kernel_rfl) (by kernel_rfl) ?hq1 (Or.inl ⟨?hw1, ?hy1⟩) hS ?rest1
                case hi1 => simp only [List.getElem?_toArray, List.getElem?_cons_succ, List.getElem?_cons_zero]; rfl
                case hq1 => exact fun _ _ _ h => h
                case hw1 => rfl
                case hy1 => intro w hSw; (try dsimp only at hSw); go_simp; (try with_reducible rfl)
                try simp only [Act.put, List.setIfInBounds_toArray, List.set_cons_zero, List.set_cons_succ]
                refine wpAnyH_take (i := 1) (oi := ?oi2) (v := ?v2) ?hi2 (by kernel_rfl) (by kernel_rfl) (by kernel_rfl) ?hq2 (Or.inl ⟨?hw2, ?hy2⟩) hS ?rest2
                case hi2 => simp only [List.getElem?_toArray, List.getElem?_cons_succ, List.getElem?_cons_zero]; rfl
                case hq2 => exact fun _ _ _ h => h
                case hw2 => rfl
                case hy2 => intro w hSw; (try dsimp only at hSw); go_simp; (try with_reducible rfl)
                try simp only [Act.put, List.setIfInBounds_toArray, List.set_cons_zero, List.set_cons_succ]
                refine wpAnyH_take (i := 2) (oi := ?oi3) (v := ?v3) ?hi3 (by kernel_rfl) (by kernel_rfl) (by kernel_rfl) ?hq3 (Or.inl ⟨?hw3, ?hy3⟩) hS ?rest3
                case hi3 => simp only [List.getElem?_toArray, List.getElem?_cons_succ, List.getElem?_cons_zero]; rfl
                case hq3 => exact fun _ _ _ h => h
                case hw3 => rfl
                case hy3 => intro w hSw; (try dsimp only at hSw); go_simp; (try with_reducible rfl)
                try simp only [Act.put, List.setIfInBounds_toArray, List.set_cons_zero, List.set_cons_succ]
                refine wpAnyH_take (i := 3) (oi := ?oi4) (v := undef) ?hi4 (by kernel_rfl) (by kernel_rfl) (by kernel_rfl) ?hq4 (Or.inr ⟨?hw4, rfl⟩) hS ?rest4
                case hi4 => simp only [List.getElem?_toArray, List.getElem?_cons_succ, List.getElem?_cons_zero]; rfl
                case hq4 => exact fun _ _ _ h => h
                case hw4 => rfl
                try simp only [Act.put, List.setIfInBounds_toArray, List.set_cons_zero, List.set_cons_succ]
                refine wpAnyH_take (i := 4) (oi := ?oi5) (v := undef) ?hi5 (by kernel_rfl) (by kernel_rfl) (by kernel_rfl) ?hq5 (Or.inr ⟨?hw5, rfl⟩) hS ?rest5
                case hi5 => simp only [List.getElem?_toArray, List.getElem?_cons_succ, List.getElem?_cons_zero]; rfl
                case hq5 => exact fun _ _ _ h => h
                case hw5 => rfl
                try simp only [Act.put, List.setIfInBounds_toArray, List.set_cons_zero, List.set_cons_succ]
                refine wpAnyH_take (i := 5) (oi := ?oi6) (v := undef) ?hi6 (by kernel_rfl) (by kernel_rfl) (by kernel_rfl) ?hq6 (Or.inr ⟨?hw6, rfl⟩) hS ?rest6
                case hi6 => simp only [List.getElem?_toArray, List.getElem?_cons_succ, List.getElem?_cons_zero]; rfl
                case hq6 => exact fun _ _ _ h => h
                case hw6 => rfl
                try simp only [Act.put, List.setIfInBounds_toArray, List.set_cons_zero, List.set_cons_succ]
                refine wpAnyH_take (i := 6) (oi := ?oi7) (v := undef) ?hi7 (by kernel_rfl) (by kernel_rfl) (by kernel_rfl) ?hq7 (Or.inr ⟨?hw7, rfl⟩) hS ?rest7
                case hi7 => simp only [List.getElem?_toArray, List.getElem?_cons_succ, List.getElem?_cons_zero]; rfl
                case hq7 => exact fun _ _ _ h => h
                case hw7 => rfl
                try simp only [Act.put, List.setIfInBounds_toArray, List.set_cons_zero, List.set_cons_succ]
                refine wpAnyH_take (i := 7) (oi := ?oi8) (v := undef) ?hi8 (by kernel_rfl) (by kernel_rfl) (by kernel_rfl) ?hq8 (Or.inr ⟨?hw8, rfl⟩) hS ?rest8
                case hi8 => simp only [List.getElem?_toArray, List.getElem?_cons_succ, List.getElem?_cons_zero]; rfl
                case hq8 => exact fun _ _ _ h => h
                case hw8 => rfl
                try simp only [Act.put, List.setIfInBounds_toArray, List.set_cons_zero, List.set_cons_succ]
                refine wpAnyH_take (i := 8) (oi := ?oi9) (v := undef) ?hi9 (by kernel_rfl) (by kernel_rfl) (by kernel_rfl) ?hq9 (Or.inr ⟨?hw9, rfl⟩) hS ?rest9
                case hi9 => simp only [List.getElem?_toArray, List.getElem?_cons_succ, List.getElem?_cons_zero]; rfl
                case hq9 => exact fun _ _ _ h => h
                case hw9 => rfl
                try simp only [Act.put, List.setIfInBounds_toArray, List.set_cons_zero, List.set_cons_succ]
                refine wpAnyH_take (i := 9) (oi := ?oi10) (v := undef) ?hi10 (by kernel_rfl) (by kernel_rfl) (by kernel_rfl) ?hq10 (Or.inr ⟨?hw10, rfl⟩) hS ?rest10
                case hi10 => simp only [List.getElem?_toArray, List.getElem?_cons_succ, List.getElem?_cons_zero]; rfl
                case hq10 => exact fun _ _ _ h => h
                case hw10 => rfl
                try simp only [Act.put, List.setIfInBounds_toArray, List.set_cons_zero, List.set_cons_succ]
                refine wpAnyH_take (i := 10) (oi := ?oi11) (v := undef) ?hi11 (by kernel_rfl) (by kernel_rfl) (by kernel_rfl) ?hq11 (Or.inr ⟨?hw11, rfl⟩) hS ?rest11
                case hi11 => simp only [List.getElem?_toArray, List.getElem?_cons_succ, List.getElem?_cons_zero]; rfl
                case hq11 => exact fun _ _ _ h => h
                case hw11 => rfl
                try simp only [Act.put, List.setIfInBounds_toArray, List.set_cons_zero, List.set_cons_succ]
                refine wpAnyH_take (i := 11) (oi := ?oi12) (v := undef) ?hi12 (by kernel_rfl) (by kernel_rfl) (by kernel_rfl) ?hq12 (Or.inr ⟨?hw12, rfl⟩) hS ?rest12
                case hi12 => simp only [List.getElem?_toArray, List.getElem?_cons_succ, List.getElem?_cons_zero]; rfl
                case hq12 => exact fun _ _ _ h => h
                case hw12 => rfl
                try simp only [Act.put, List.setIfInBounds_toArray, List.set_cons_zero, List.set_cons_succ]
                refine wpAnyH_take (i := 12) (oi := ?oi13) (v := undef) ?hi13 (by kernel_rfl) (by kernel_rfl) (by kernel_rfl) ?hq13 (Or.inr ⟨?hw13, rfl⟩) hS ?rest13
                case hi13 => simp only [List.getElem?_toArray, List.getElem?_cons_succ, List.getElem?_cons_zero]; rfl
                case hq13 => exact fun _ _ _ h => h
                case hw13 => rfl
                try simp only [Act.put, List.setIfInBounds_toArray, List.set_cons_zero, List.set_cons_succ]
                refine wpAnyH_take (i := 13) (oi := ?oi14) (v := ?v14) ?hi14 (by kernel_rfl) (by kernel_rfl) (by kernel_rfl) ?hq14 (Or.inl ⟨?hw14, ?hy14⟩) hS ?rest14
                case hi14 => simp only [List.getElem?_toArray, List.getElem?_cons_succ, List.getElem?_cons_zero]; rfl
                case hq14 => exact fun _ _ _ h => h
                case hw14 => rfl
                case hy14 => intro w hSw; (try dsimp only at hSw); go_simp; (try with_reducible rfl)
                try simp only [Act.put, List.setIfInBounds_toArray, List.set_cons_zero, List.set_cons_succ]
                refine wpAnyH_done (by kernel_rfl) ?_ _
                refine NoPanic.normal ?_
                go_wp2_with fail
                have hHS : ∀ w', Below wr.heap.size wr w' → w'.cell? ⟨b10, o10, none⟩ = some (.slice aq q.length cq) ∧ w'.cell? ⟨b8, o8 + j, none⟩ = some (.string (strOf nm)) := fun w' hb => ⟨(hb.cell (p := ⟨b10, o10, none⟩) (by simp only; omega)).trans zu2, (hb.cell (p := ⟨b8, o8 + j, none⟩) hb8w).trans hc8c⟩
                have HS20 := Lib.hid hHS
                have HQR : Hid (∀ w', Below wr.heap.size wr w' → RowAt (fun b => b < wr.heap.size) w' aq (q.length * 1) ((q.map strOf).map .string)) := fun w' hb => by
                  rw [Nat.mul_one]
                  exact HSQ.out.row.move (Nat.le_trans hsj hb.size) fun b hb' hbw => ⟨by omega, (hb.block b (by omega)).trans (HBJ.out.block b hbw)⟩
                have HLK : Hid (∀ w' A n2 c2, Below wr.heap.size wr w' → w'.ownsRow wr.heap.size 9 1 (.slice A n2 c2) n2 ((q.map strOf).map .string ++ [.string (strOf nm)]) → Calls Tryz.prog 47 #[ptr t, .slice A n2 c2] w' fun e w'' => (∃ d, e = .returned (.tuple #[.int .i64 d, .int .i64 0])) ∧ Below w'.heap.size w' w'') := fun w' A n2 c2 hb ho => by
                  obtain ⟨hl0, hnm9⟩ := HLOOK.out nm (List.mem_of_getElem? HNM.out)
                  have h9 := look_own (q := q ++ [nm]) (HT.out.grow (HB6.out.trans ((HBJ.out.trans (hb.mono hsj)).mono HB6.out.size))) (by simpa using ho) (fun z hz => by
                    rcases List.mem_append.1 hz with h1 | h1
                    · exact HQM.out z h1
                    · obtain rfl : z = nm := by simpa using h1
                      exact hnm9)
                  rw [hl0] at h9
                  refine h9.mono ?_
                  rintro e w2 ⟨rfl, hb2⟩
                  exact ⟨⟨_, rfl⟩, hb2⟩
                have hql64 : q.length ≤ 8 := hq8
                clear hHS hc8c zu2 hd4 hd5
                refine wp_region_noPanic ?_
                refine wp_region_L (last := 17) (S := (fun w' => w'.cell? ⟨b10, o10, none⟩ = some (.slice aq q.length cq) ∧ w'.cell? ⟨b8, o8 + j, none⟩ = some (.string (strOf nm)))) (by kernel_rfl) ?_ (fun hS => ?_)
                · exact HS20.out _ (Below.refl _ _).drew.drew
                refine wpAnyL_take (i := 0) (oi := ?oi15) (v := ?v15) ?hi15 (by kernel_rfl) (by kernel_rfl) (by kernel_rfl) (by kernel_rfl) (by kernel_rfl) ?hq15 (Or.inl ⟨?hw15, ?hy15⟩) hS ?rest15
                case hi15 => simp only [List.getElem?_toArray, List.getElem?_cons_succ, List.getElem?_cons_zero]; rfl
                case hq15 => exact fun _ _ _ h => h
                case hw15 => rfl
                case hy15 => intro w hSw; (try dsimp only at hSw); go_simp; (try with_reducible rfl)
                try simp only [Act.put, List.setIfInBounds_toArray, List.set_cons_zero, List.set_cons_succ]
                refine wpAnyL_take (i := 2) (oi := ?oi16) (v := ?v16) ?hi16 (by kernel_rfl) (by kernel_rfl) (by kernel_rfl) (by kernel_rfl) (by kernel_rfl) ?hq16 (Or.inl ⟨?hw16, ?hy16⟩) hS ?rest16
                case hi16 => simp only [List.getElem?_toArray, List.getElem?_cons_succ, List.getElem?_cons_zero]; rfl
                case hq16 => exact fun _ _ _ h => h
                case hw16 => rfl
                case hy16 => intro w hSw; (try dsimp only at hSw); go_simp; (try with_reducible rfl)
                try simp only [Act.put, List.setIfInBounds_toArray, List.set_cons_zero, List.set_cons_succ]
                refine wpAnyL_take (i := 3) (oi := ?oi17) (v := ?v17) ?hi17 (by kernel_rfl) (by kernel_rfl) (by kernel_rfl) (by kernel_rfl) (by kernel_rfl) ?hq17 (Or.inl ⟨?hw17, ?hy17⟩) hS ?rest17
                case hi17 => simp only [List.getElem?_toArray, List.getElem?_cons_succ, List.getElem?_cons_zero]; rfl
                case hq17 => exact fun _ _ _ h => h
                case hw17 => rfl
                case hy17 => intro w hSw; (try dsimp only at hSw); go_simp; (try with_reducible rfl)
                try simp only [Act.put, List.setIfInBounds_toArray, List.set_cons_zero, List.set_cons_succ]
                refine wpAnyL_take (i := 4) (oi := ?oi18) (v := ?v18) ?hi18 (by kernel_rfl) (by kernel_rfl) (by kernel_rfl) (by kernel_rfl) (by kernel_rfl) ?hq18 (Or.inl ⟨?hw18, ?hy18⟩) hS ?rest18
                case hi18 => simp only [List.getElem?_toArray, List.getElem?_cons_succ, List.getElem?_cons_zero]; rfl
                case hq18 => exact fun _ _ _ h => h
                case hw18 => rfl
                case hy18 => intro w hSw; (try dsimp only at hSw); go_simp; (try with_reducible rfl)
                try simp only [Act.put, List.setIfInBounds_toArray, List.set_cons_zero, List.set_cons_succ]
                refine wpAnyL_take (i := 6) (oi := ?oi19) (v := ?v19) ?hi19 (by kernel_rfl) (by kernel_rfl) (by kernel_rfl) (by kernel_rfl) (by kernel_rfl) ?hq19 (Or.inl ⟨?hw19, ?hy19⟩) hS ?rest19
                case hi19 => simp only [List.getElem?_toArray, List.getElem?_cons_succ, List.getElem?_cons_zero]; rfl
                case hq19 => exact fun _ _ _ h => h
                case hw19 => rfl
                case hy19 => intro w hSw; (try dsimp only at hSw); go_simp; (try with_reducible rfl)
                try simp only [Act.put, List.setIfInBounds_toArray, List.set_cons_zero, List.set_cons_succ]
                refine wpAnyL_take (i := 7) (oi := ?oi20) (v := ?v20) ?hi20 (by kernel_rfl) (by kernel_rfl) (by kernel_rfl) (by kernel_rfl) (by kernel_rfl) ?hq20 (Or.inl ⟨?hw20, ?hy20⟩) hS ?rest20
                case hi20 => simp only [List.getElem?_toArray, List.getElem?_cons_succ, List.getElem?_cons_zero]; rfl
                case hq20 => exact fun _ _ _ h => h
                case hw20 => rfl
                case hy20 => intro w hSw; (try dsimp only at hSw); go_simp; (try with_reducible rfl)
                try simp only [Act.put, List.setIfInBounds_toArray, List.set_cons_zero, List.set_cons_succ]
                refine wpAnyL_take (i := 8) (oi := ?oi21) (v := ?v21) ?hi21 (by kernel_rfl) (by kernel_rfl) (by kernel_rfl) (by kernel_rfl) (by kernel_rfl) ?hq21 (Or.inl ⟨?hw21, ?hy21⟩) hS ?rest21
                case hi21 => simp only [List.getElem?_toArray, List.getElem?_cons_succ, List.getElem?_cons_zero]; rfl
                case hq21 => exact fun _ _ _ h => h
                case hw21 => rfl
                case hy21 => intro w hSw; (try dsimp only at hSw); go_simp; (try with_reducible rfl)
                try simp only [Act.put, List.setIfInBounds_toArray, List.set_cons_zero, List.set_cons_succ]
                refine wpAnyL_take (i := 9) (oi := ?oi22) (v := ?v22) ?hi22 (by kernel_rfl) (by kernel_rfl) (by kernel_rfl) (by kernel_rfl) (by kernel_rfl) ?hq22 (Or.inl ⟨?hw22, ?hy22⟩) hS ?rest22
                case hi22 => simp only [List.getElem?_toArray, List.getElem?_cons_succ, List.getElem?_cons_zero]; rfl
                case hq22 => exact fun _ _ _ h => h
                case hw22 => rfl
                case hy22 => intro w hSw; (try dsimp only at hSw); go_simp; (try with_reducible rfl)
                try simp only [Act.put, List.setIfInBounds_toArray, List.set_cons_zero, List.set_cons_succ]
                refine wpAnyL_ready (rs := [1, 10]) (by kernel_rfl) (by simp) ?_
                refine AllReadyL.cons (o := ?o23) ?ho23 (fun K hK => ?wa) (AllReadyL.cons (o := ?o24) ?ho24 (fun K hK => ?wb) AllReadyL.nil)
                case ho23 => simp only [List.getElem?_toArray, List.getElem?_cons_succ, List.getElem?_cons_zero]; rfl
                case ho24 => simp only [List.getElem?_toArray, List.getElem?_cons_succ, List.getElem?_cons_zero]; rfl
                case wa =>
                  go_simp
                  refine hK.out _ _ (fun _ => HS20.out _ ((Below.refl _ _).drew.drew.alloc (Nat.le_refl _) _)) (fun hS => ?_)
                  replace hS := hS (by decide)
                  clear hK K
                  try simp only [Act.put, List.setIfInBounds_toArray, List.set_cons_zero, List.set_cons_succ]
                  refine wpAnyL_ready (rs := [5, 10]) (by kernel_rfl) (by simp) ?_
                  refine AllReadyL.cons (o := ?o25) ?ho25 (fun K hK => ?waa) (AllReadyL.cons (o := ?o26) ?ho26 (fun K hK => ?wab) AllReadyL.nil)
                  case ho25 => simp only [List.getElem?_toArray, List.getElem?_cons_succ, List.getElem?_cons_zero]; rfl
                  case ho26 => simp only [List.getElem?_toArray, List.getElem?_cons_succ, List.getElem?_cons_zero]; rfl
                  case waa =>
                    refine step_append_rows (by rfl) (.tmp 85) (.tmp 88) 36 (by rfl) wr.heap.size 9 Ts _ 1 16 Tryz.underlying36 HI.out.1 HI.out.2.1 HI.out.2.2.1 HI.out.2.2.2 rfl (by omega) _ 0 [] (by rfl) (own_new (MapKept.heap_alloc wr.drew.drew _).1 (Nat.le_refl _)) _ q.length _ ((q.map strOf).map .string) (by rfl) (HQR.out _ ((Below.refl _ _).drew.drew.alloc (Nat.le_refl _) _)) (by simp [Value.oneCell']) (by unfold maxLen; omega) (by omega) (by simp) ?_
                    intro A1 c1 u1 hown0 hb1
                    have hB0 : Below wr.heap.size wr u1 := ((Below.refl _ _).drew.drew.alloc (Nat.le_refl _) _).trans hb1
                    refine hK.out _ _ (fun _ => HS20.out _ hB0) (fun hS => ?_)
                    replace hS := hS (by decide)
                    clear hK K
                    try simp only [Act.put, List.setIfInBounds_toArray, List.set_cons_zero, List.set_cons_succ]
                    refine wpAnyL_ready (rs := [10]) (by kernel_rfl) (by simp) ?_
                    refine AllReadyL.cons (o := ?o27) ?ho27 (fun K hK => ?_) AllReadyL.nil
                    case ho27 => simp only [List.getElem?_toArray, List.getElem?_cons_succ, List.getElem?_cons_zero]; rfl
                    go_simp
                    refine hK.out _ _ (fun _ => HS20.out _ (hB0.alloc hB0.size _)) (fun hS => ?_)
                    replace hS := hS (by decide)
                    clear hK K
                    try simp only [Act.put, List.setIfInBounds_toArray, List.set_cons_zero, List.set_cons_succ]
                    rw [Nat.zero_add, List.nil_append] at hown0
                    have hown1 := own_below hown0 ((Below.refl _ _).alloc (Nat.le_refl _) (.cells #[.string (strOf nm)] 9))
                    have hrow := one_row (w := u1) (.string (strOf nm)) 9
                    have hB1 : Below wr.heap.size wr (u1.alloc (.cells #[.string (strOf nm)] 9)) := hB0.alloc hB0.size _
                    refine wpAnyL_ready (rs := [11]) (by kernel_rfl) (by simp) ?_
                    refine AllReadyL.cons (o := ?o28) ?ho28 (fun K hK => ?_) AllReadyL.nil
                    case ho28 => simp only [List.getElem?_toArray, List.getElem?_cons_succ, List.getElem?_cons_zero]; rfl
                    refine step_append_rows (by rfl) (.tmp 89) (.tmp 94) 36 (by rfl) wr.heap.size 9 Ts _ 1 16 Tryz.underlying36 HI.out.1 HI.out.2.1 HI.out.2.2.1 HI.out.2.2.2 rfl (by omega) _ _ _ (by rfl) hown1 _ 1 _ [.string (strOf nm)] (by rfl) hrow (by simp [Value.oneCell']) (by unfold maxLen; omega) (by omega) hB1.size ?_
                    intro A2 c2 u2 hown2 hb2
                    have hB2 : Below wr.heap.size wr u2 := hB1.trans hb2
                    refine hK.out _ _ (fun _ => HS20.out _ hB2) (fun hS => ?_)
                    replace hS := hS (by decide)
                    clear hK K
                    try simp only [Act.put, List.setIfInBounds_toArray, List.set_cons_zero, List.set_cons_succ]
                    refine wpAnyL_ready (rs := [12]) (by kernel_rfl) (by simp) ?_
                    refine AllReadyL.cons (o := ?o29) ?ho29 (fun K hK => ?_) AllReadyL.nil
                    case ho29 => simp only [List.getElem?_toArray, List.getElem?_cons_succ, List.getElem?_cons_zero]; rfl
                    go_simp
                    (with_reducible refine (HLK.out _ _ _ _ hB2 hown2).mono ?_)
                    rintro e u3 ⟨⟨d9, rfl⟩, hb3⟩
                    have hB3 : Below wr.heap.size wr u3 := hB2.trans (hb3.mono hB2.size)
                    go_wp2_with fail
                    refine hK.out _ _ (fun _ => HS20.out _ hB3) (fun hS => ?_)
                    replace hS := hS (by decide)
                    clear hK K
                    try simp only [Act.put, List.setIfInBounds_toArray, List.set_cons_zero, List.set_cons_succ]
                    refine wpAnyL_take (i := 13) (oi := ?oi30) (v := ?v30) ?hi30 (by kernel_rfl) (by kernel_rfl) (by kernel_rfl) (by kernel_rfl) (by kernel_rfl) ?hq30 (Or.inl ⟨?hw30, ?hy30⟩) hS ?rest30
                    case hi30 => simp only [List.getElem?_toArray, List.getElem?_cons_succ, List.getElem?_cons_zero]; rfl
                    case hq30 => exact fun _ _ _ h => h
                    case hw30 => rfl
                    case hy30 => intro w hSw; (try dsimp only at hSw); go_simp; (try with_reducible rfl)
                    try simp only [Act.put, List.setIfInBounds_toArray, List.set_cons_zero, List.set_cons_succ]
                    refine wpAnyL_take (i := 14) (oi := ?oi31) (v := ?v31) ?hi31 (by kernel_rfl) (by kernel_rfl) (by kernel_rfl) (by kernel_rfl) (by kernel_rfl) ?hq31 (Or.inl ⟨?hw31, ?hy31⟩) hS ?rest31
                    case hi31 => simp only [List.getElem?_toArray, List.getElem?_cons_succ, List.getElem?_cons_zero]; rfl
                    case hq31 => exact fun _ _ _ h => h
                    case hw31 => rfl
                    case hy31 => intro w hSw; (try dsimp only at hSw); go_simp; (try with_reducible rfl)
                    try simp only [Act.put, List.setIfInBounds_toArray, List.set_cons_zero, List.set_cons_succ]
                    refine wpAnyL_take (i := 15) (oi := ?oi32) (v := ?v32) ?hi32 (by kernel_rfl) (by kernel_rfl) (by kernel_rfl) (by kernel_rfl) (by kernel_rfl) ?hq32 (Or.inl ⟨?hw32, ?hy32⟩) hS ?rest32
                    case hi32 => simp only [List.getElem?_toArray, List.getElem?_cons_succ, List.getElem?_cons_zero]; rfl
                    case hq32 => exact fun _ _ _ h => h
                    case hw32 => rfl
                    case hy32 => intro w hSw; (try dsimp only at hSw); go_simp; (try with_reducible rfl)
                    try simp only [Act.put, List.setIfInBounds_toArray, List.set_cons_zero, List.set_cons_succ]
                    refine wpAnyL_take (i := 16) (oi := ?oi33) (v := ?v33) ?hi33 (by kernel_rfl) (by kernel_rfl) (by kernel_rfl) (by kernel_rfl) (by kernel_rfl) ?hq33 (Or.inl ⟨?hw33, ?hy33⟩) hS ?rest33
                    case hi33 => simp only [List.getElem?_toArray, List.getElem?_cons_succ, List.getElem?_cons_zero]; rfl
                    case hq33 => exact fun _ _ _ h => h
                    case hw33 => rfl
                    case hy33 => intro w hSw; (try dsimp only at hSw); go_simp; (try with_reducible rfl)
                    try simp only [Act.put, List.setIfInBounds_toArray, List.set_cons_zero, List.set_cons_succ]
                    refine wpAnyL_ready (rs := [17]) (by kernel_rfl) (by simp) ?_
                    refine AllReadyL.cons (o := ?o34) ?ho34 (fun K hK => ?_) AllReadyL.nil
                    case ho34 => simp only [List.getElem?_toArray, List.getElem?_cons_succ, List.getElem?_cons_zero]; rfl
                    go_simp
                    refine hK.out _ _ (fun h => absurd rfl h) (fun hS => ?_)
                    clear hS hK K
                    try simp only [Act.put, List.setIfInBounds_toArray, List.set_cons_zero, List.set_cons_succ]
                    refine wpAnyL_done (by kernel_rfl) ?_ _
                    refine NoPanic.normal ?_
                    go_wp2_with fail
                    go_roundw
                    case rel => exact ⟨j + 1, by omega, by go_num, HBJ.out.trans (hB3.mono hsj)⟩
                    case measure => simp [intOf]; omega
                  case wab =>
                    go_simp
                    refine hK.out _ _ (fun _ => HS20.out _ (((Below.refl _ _).drew.drew.alloc (Nat.le_refl _) _).alloc (by simp <;> omega) _)) (fun hS => ?_)
                    replace hS := hS (by decide)
                    clear hK K
                    try simp only [Act.put, List.setIfInBounds_toArray, List.set_cons_zero, List.set_cons_succ]
                    refine wpAnyL_ready (rs := [5]) (by kernel_rfl) (by simp) ?_
                    refine AllReadyL.cons (o := ?o35) ?ho35 (fun K hK => ?_) AllReadyL.nil
                    case ho35 => simp only [List.getElem?_toArray, List.getElem?_cons_succ, List.getElem?_cons_zero]; rfl
                    refine step_append_grown (by rfl) (.tmp 85) (.tmp 88) 36 (by rfl) wr.heap.size 9 Ts _ 1 16 Tryz.underlying36 HI.out.1 HI.out.2.1 HI.out.2.2.1 HI.out.2.2.2 rfl (by omega) _ 0 [] (by rfl) (own_new (two_new wr.drew _ _).1 (Nat.le_refl _)) _ q.length _ ((q.map strOf).map .string) (by rfl) (HQR.out _ (((Below.refl _ _).drew.drew.alloc (Nat.le_refl _) _).alloc (by simp <;> omega) _)) (by simp [Value.oneCell']) (by unfold maxLen; omega) (by omega) (by simp <;> omega) ?_
                    intro A1 c1 u1 hown1 hb1 hg1
                    have hB1 : Below wr.heap.size wr u1 := (((Below.refl _ _).drew.drew.alloc (Nat.le_refl _) _).alloc (by simp <;> omega) _).trans hb1
                    have hrow := (row_blk (vs := [.string (strOf nm)]) (two_new wr.drew (.cells #[] 9) (.cells #[.string (strOf nm)] 9)).2 (by simp [maxLen])).grown hg1 (fun b hb hbw => by subst hb; simp [Value.ownBlock])
                    refine hK.out _ _ (fun _ => HS20.out _ hB1) (fun hS => ?_)
                    replace hS := hS (by decide)
                    clear hK K
                    try simp only [Act.put, List.setIfInBounds_toArray, List.set_cons_zero, List.set_cons_succ]
                    refine wpAnyL_ready (rs := [11]) (by kernel_rfl) (by simp) ?_
                    refine AllReadyL.cons (o := ?o36) ?ho36 (fun K hK => ?_) AllReadyL.nil
                    case ho36 => simp only [List.getElem?_toArray, List.getElem?_cons_succ, List.getElem?_cons_zero]; rfl
                    refine step_append_rows (by rfl) (.tmp 89) (.tmp 94) 36 (by rfl) wr.heap.size 9 Ts _ 1 16 Tryz.underlying36 HI.out.1 HI.out.2.1 HI.out.2.2.1 HI.out.2.2.2 rfl (by omega) _ _ _ (by rfl) hown1 _ 1 _ [.string (strOf nm)] (by rfl) hrow (by simp [Value.oneCell']) (by unfold maxLen; omega) (by omega) hB1.size ?_
                    intro A2 c2 u2 hown2 hb2
                    rw [Nat.zero_add, List.nil_append] at hown2
                    have hB2 : Below wr.heap.size wr u2 := hB1.trans hb2
                    refine hK.out _ _ (fun _ => HS20.out _ hB2) (fun hS => ?_)
                    replace hS := hS (by decide)
                    clear hK K
                    try simp only [Act.put, List.setIfInBounds_toArray, List.set_cons_zero, List.set_cons_succ]
                    refine wpAnyL_ready (rs := [12]) (by kernel_rfl) (by simp) ?_
                    refine AllReadyL.cons (o := ?o37) ?ho37 (fun K hK => ?_) AllReadyL.nil
                    case ho37 => simp only [List.getElem?_toArray, List.getElem?_cons_succ, List.getElem?_cons_zero]; rfl
                    go_simp
                    (with_reducible refine (HLK.out _ _ _ _ hB2 hown2).mono ?_)
                    rintro e u3 ⟨⟨d9, rfl⟩, hb3⟩
                    have hB3 : Below wr.heap.size wr u3 := hB2.trans (hb3.mono hB2.size)
                    go_wp2_with fail
                    refine hK.out _ _ (fun _ => HS20.out _ hB3) (fun hS => ?_)
                    replace hS := hS (by decide)
                    clear hK K
                    try simp only [Act.put, List.setIfInBounds_toArray, List.set_cons_zero, List.set_cons_succ]
                    refine wpAnyL_take (i := 13) (oi := ?oi38) (v := ?v38) ?hi38 (by kernel_rfl) (by kernel_rfl) (by kernel_rfl) (by kernel_rfl) (by kernel_rfl) ?hq38 (Or.inl ⟨?hw38, ?hy38⟩) hS ?rest38
                    case hi38 => simp only [List.getElem?_toArray, List.getElem?_cons_succ, List.getElem?_cons_zero]; rfl
                    case hq38 => exact fun _ _ _ h => h
                    case hw38 => rfl
                    case hy38 => intro w hSw; (try dsimp only at hSw); go_simp; (try with_reducible rfl)
                    try simp only [Act.put, List.setIfInBounds_toArray, List.set_cons_zero, List.set_cons_succ]
                    refine wpAnyL_take (i := 14) (oi := ?oi39) (v := ?v39) ?hi39 (by kernel_rfl) (by kernel_rfl) (by kernel_rfl) (by kernel_rfl) (by kernel_rfl) ?hq39 (Or.inl ⟨?hw39, ?hy39⟩) hS ?rest39
                    case hi39 => simp only [List.getElem?_toArray, List.getElem?_cons_succ, List.getElem?_cons_zero]; rfl
                    case hq39 => exact fun _ _ _ h => h
                    case hw39 => rfl
                    case hy39 => intro w hSw; (try dsimp only at hSw); go_simp; (try with_reducible rfl)
                    try simp only [Act.put, List.setIfInBounds_toArray, List.set_cons_zero, List.set_cons_succ]
                    refine wpAnyL_take (i := 15) (oi := ?oi40) (v := ?v40) ?hi40 (by kernel_rfl) (by kernel_rfl) (by kernel_rfl) (by kernel_rfl) (by kernel_rfl) ?hq40 (Or.inl ⟨?hw40, ?hy40⟩) hS ?rest40
                    case hi40 => simp only [List.getElem?_toArray, List.getElem?_cons_succ, List.getElem?_cons_zero]; rfl
                    case hq40 => exact fun _ _ _ h => h
                    case hw40 => rfl
                    case hy40 => intro w hSw; (try dsimp only at hSw); go_simp; (try with_reducible rfl)
                    try simp only [Act.put, List.setIfInBounds_toArray, List.set_cons_zero, List.set_cons_succ]
                    refine wpAnyL_take (i := 16) (oi := ?oi41) (v := ?v41) ?hi41 (by kernel_rfl) (by kernel_rfl) (by kernel_rfl) (by kernel_rfl) (by kernel_rfl) ?hq41 (Or.inl ⟨?hw41, ?hy41⟩) hS ?rest41
                    case hi41 => simp only [List.getElem?_toArray, List.getElem?_cons_succ, List.getElem?_cons_zero]; rfl
                    case hq41 => exact fun _ _ _ h => h
                    case hw41 => rfl
                    case hy41 => intro w hSw; (try dsimp only at hSw); go_simp; (try with_reducible rfl)
                    try simp only [Act.put, List.setIfInBounds_toArray, List.set_cons_zero, List.set_cons_succ]
                    refine wpAnyL_ready (rs := [17]) (by kernel_rfl) (by simp) ?_
                    refine AllReadyL.cons (o := ?o42) ?ho42 (fun K hK => ?_) AllReadyL.nil
                    case ho42 => simp only [List.getElem?_toArray, List.getElem?_cons_succ, List.getElem?_cons_zero]; rfl
                    go_simp
                    refine hK.out _ _ (fun h => absurd rfl h) (fun hS => ?_)
                    clear hS hK K
                    try simp only [Act.put, List.setIfInBounds_toArray, List.set_cons_zero, List.set_cons_succ]
                    refine wpAnyL_done (by kernel_rfl) ?_ _
                    refine NoPanic.normal ?_
                    go_wp2_with fail
                    go_roundw
                    case rel => exact ⟨j + 1, by omega, by go_num, HBJ.out.trans (hB3.mono hsj)⟩
                    case measure => simp [intOf]; omega
                case wb =>
                  go_simp
                  refine hK.out _ _ (fun _ => HS20.out _ ((Below.refl _ _).drew.drew.alloc (Nat.le_refl _) _)) (fun hS => ?_)
                  replace hS := hS (by decide)
                  clear hK K
                  try simp only [Act.put, List.setIfInBounds_toArray, List.set_cons_zero, List.set_cons_succ]
                  refine wpAnyL_ready (rs := [1]) (by kernel_rfl) (by simp) ?_
                  refine AllReadyL.cons (o := ?o43) ?ho43 (fun K hK => ?_) AllReadyL.nil
                  case ho43 => simp only [List.getElem?_toArray, List.getElem?_cons_succ, List.getElem?_cons_zero]; rfl
                  go_simp
                  refine hK.out _ _ (fun _ => HS20.out _ (((Below.refl _ _).drew.drew.alloc (Nat.le_refl _) _).alloc (by simp <;> omega) _)) (fun hS => ?_)
                  replace hS := hS (by decide)
                  clear hK K
                  try simp only [Act.put, List.setIfInBounds_toArray, List.set_cons_zero, List.set_cons_succ]
                  refine wpAnyL_ready (rs := [5]) (by kernel_rfl) (by simp) ?_
                  refine AllReadyL.cons (o := ?o44) ?ho44 (fun K hK => ?_) AllReadyL.nil
                  case ho44 => simp only [List.getElem?_toArray, List.getElem?_cons_succ, List.getElem?_cons_zero]; rfl
                  refine step_append_grown (by rfl) (.tmp 85) (.tmp 88) 36 (by rfl) wr.heap.size 9 Ts _ 1 16 Tryz.underlying36 HI.out.1 HI.out.2.1 HI.out.2.2.1 HI.out.2.2.2 rfl (by omega) _ 0 [] (by rfl) (own_new (two_new wr.drew _ _).2 (Nat.le_succ _)) _ q.length _ ((q.map strOf).map .string) (by rfl) (HQR.out _ (((Below.refl _ _).drew.drew.alloc (Nat.le_refl _) _).alloc (by simp <;> omega) _)) (by simp [Value.oneCell']) (by unfold maxLen; omega) (by omega) (by simp <;> omega) ?_
                  intro A1 c1 u1 hown1 hb1 hg1
                  have hB1 : Below wr.heap.size wr u1 := (((Below.refl _ _).drew.drew.alloc (Nat.le_refl _) _).alloc (by simp <;> omega) _).trans hb1
                  have hrow := (row_blk (vs := [.string (strOf nm)]) (two_new wr.drew (.cells #[.string (strOf nm)] 9) (.cells #[] 9)).1 (by simp [maxLen])).grown hg1 (fun b hb hbw => by subst hb; simp [Value.ownBlock])
                  refine hK.out _ _ (fun _ => HS20.out _ hB1) (fun hS => ?_)
                  replace hS := hS (by decide)
                  clear hK K
                  try simp only [Act.put, List.setIfInBounds_toArray, List.set_cons_zero, List.set_cons_succ]
                  refine wpAnyL_ready (rs := [11]) (by kernel_rfl) (by simp) ?_
                  refine AllReadyL.cons (o := ?o45) ?ho45 (fun K hK => ?_) AllReadyL.nil
                  case ho45 => simp only [List.getElem?_toArray, List.getElem?_cons_succ, List.getElem?_cons_zero]; rfl
                  refine step_append_rows (by rfl) (.tmp 89) (.tmp 94) 36 (by rfl) wr.heap.size 9 Ts _ 1 16 Tryz.underlying36 HI.out.1 HI.out.2.1 HI.out.2.2.1 HI.out.2.2.2 rfl (by omega) _ _ _ (by rfl) hown1 _ 1 _ [.string (strOf nm)] (by rfl) hrow (by simp [Value.oneCell']) (by unfold maxLen; omega) (by omega) hB1.size ?_
                  intro A2 c2 u2 hown2 hb2
                  rw [Nat.zero_add, List.nil_append] at hown2
                  have hB2 : Below wr.heap.size wr u2 := hB1.trans hb2
                  refine hK.out _ _ (fun _ => HS20.out _ hB2) (fun hS => ?_)
                  replace hS := hS (by decide)
                  clear hK K
                  try simp only [Act.put, List.setIfInBounds_toArray, List.set_cons_zero, List.set_cons_succ]
                  refine wpAnyL_ready (rs := [12]) (by kernel_rfl) (by simp) ?_
                  refine AllReadyL.cons (o := ?o46) ?ho46 (fun K hK => ?_) AllReadyL.nil
                  case ho46 => simp only [List.getElem?_toArray, List.getElem?_cons_succ, List.getElem?_cons_zero]; rfl
                  go_simp
                  (with_reducible refine (HLK.out _ _ _ _ hB2 hown2).mono ?_)
                  rintro e u3 ⟨⟨d9, rfl⟩, hb3⟩
                  have hB3 : Below wr.heap.size wr u3 := hB2.trans (hb3.mono hB2.size)
                  go_wp2_with fail
                  refine hK.out _ _ (fun _ => HS20.out _ hB3) (fun hS => ?_)
                  replace hS := hS (by decide)
                  clear hK K
                  try simp only [Act.put, List.setIfInBounds_toArray, List.set_cons_zero, List.set_cons_succ]
                  refine wpAnyL_take (i := 13) (oi := ?oi47) (v := ?v47) ?hi47 (by kernel_rfl) (by kernel_rfl) (by kernel_rfl) (by kernel_rfl) (by kernel_rfl) ?hq47 (Or.inl ⟨?hw47, ?hy47⟩) hS ?rest47
                  case hi47 => simp only [List.getElem?_toArray, List.getElem?_cons_succ, List.getElem?_cons_zero]; rfl
                  case hq47 => exact fun _ _ _ h => h
                  case hw47 => rfl
                  case hy47 => intro w hSw; (try dsimp only at hSw); go_simp; (try with_reducible rfl)
                  try simp only [Act.put, List.setIfInBounds_toArray, List.set_cons_zero, List.set_cons_succ]
                  refine wpAnyL_take (i := 14) (oi := ?oi48) (v := ?v48) ?hi48 (by kernel_rfl) (by kernel_rfl) (by kernel_rfl) (by kernel_rfl) (by kernel_rfl) ?hq48 (Or.inl ⟨?hw48, ?hy48⟩) hS ?rest48
                  case hi48 => simp only [List.getElem?_toArray, List.getElem?_cons_succ, List.getElem?_cons_zero]; rfl
                  case hq48 => exact fun _ _ _ h => h
                  case hw48 => rfl
                  case hy48 => intro w hSw; (try dsimp only at hSw); go_simp; (try with_reducible rfl)
                  try simp only [Act.put, List.setIfInBounds_toArray, List.set_cons_zero, List.set_cons_succ]
                  refine wpAnyL_take (i := 15) (oi := ?oi49) (v := ?v49) ?hi49 (by kernel_rfl) (by kernel_rfl) (by kernel_rfl) (by kernel_rfl) (by kernel_rfl) ?hq49 (Or.inl ⟨?hw49, ?hy49⟩) hS ?rest49
                  case hi49 => simp only [List.getElem?_toArray, List.getElem?_cons_succ, List.getElem?_cons_zero]; rfl
                  case hq49 => exact fun _ _ _ h => h
                  case hw49 => rfl
                  case hy49 => intro w hSw; (try dsimp only at hSw); go_simp; (try with_reducible rfl)
                  try simp only [Act.put, List.setIfInBounds_toArray, List.set_cons_zero, List.set_cons_succ]
                  refine wpAnyL_take (i := 16) (oi := ?oi50) (v := ?v50) ?hi50 (by kernel_rfl) (by kernel_rfl) (by kernel_rfl) (by kernel_rfl) (by kernel_rfl) ?hq50 (Or.inl ⟨?hw50, ?hy50⟩) hS ?rest50
                  case hi50 => simp only [List.getElem?_toArray, List.getElem?_cons_succ, List.getElem?_cons_zero]; rfl
                  case hq50 => exact fun _ _ _ h => h
                  case hw50 => rfl
                  case hy50 => intro w hSw; (try dsimp only at hSw); go_simp; (try with_reducible rfl)
                  try simp only [Act.put, List.setIfInBounds_toArray, List.set_cons_zero, List.set_cons_succ]
                  refine wpAnyL_ready (rs := [17]) (by kernel_rfl) (by simp) ?_
                  refine AllReadyL.cons (o := ?o51) ?ho51 (fun K hK => ?_) AllReadyL.nil
                  case ho51 => simp only [List.getElem?_toArray, List.getElem?_cons_succ, List.getElem?_cons_zero]; rfl
                  go_simp
                  refine hK.out _ _ (fun h => absurd rfl h) (fun hS => ?_)
                  clear hS hK K
                  try simp only [Act.put, List.setIfInBounds_toArray, List.set_cons_zero, List.set_cons_succ]
                  refine wpAnyL_done (by kernel_rfl) ?_ _
                  refine NoPanic.normal ?_
                  go_wp2_with fail
                  go_roundw
                  case rel => exact ⟨j + 1, by omega, by go_num, HBJ.out.trans (hB3.mono hsj)⟩
                  case measure => simp [intOf]; omega
              · obtain ⟨i, hi⟩ : ∃ i, j = i + 1 := ⟨j - 1, by omega⟩
                have hd4 : decide ((0 : Int) < (j : Int)) = true := by simp; omega
                have hd5 : (0 < j) = True := eq_true (by omega)
                obtain ⟨b9, o9, s, e9, hS9, hb9w, hs, hsl, hc9c⟩ := (HS6.out.below HBJ.out (Nat.le_refl _)).cell i (by omega)
                simp only [Option.some.injEq, Addr.mk.injEq, and_true] at e9
                obtain ⟨rfl, rfl⟩ := e9
                obtain ⟨nm2, hnm2, rfl⟩ : ∃ nm, NL[i]? = some nm ∧ strOf nm = s := by
                  rw [List.getElem?_map] at hs
                  cases h9 : NL[i]? with
                  | none => rw [h9] at hs; cases hs
                  | some nm => rw [h9] at hs; exact ⟨nm, rfl, by simpa using hs⟩
                have hls := HRISE.out i nm2 nm hnm2 (by rw [← hi]; exact HNM.out)
                have hwi : IntKind.i64.wrap ((j : Int) - 1) = (i : Int) := by
                  rw [show (j : Int) - 1 = (i : Int) by omega]
                  exact IntWalk.i64_in _ (by omega)
                have hi0 : (0 : Int) ≤ (i : Int) := by omega
                have hin : (i : Int) < (n : Int) := by omega
                clear hs hsl hnm2 h0 hi
                go_wp2_with fail
                refine wp_region_noPanic ?_
                refine wp_region_held_drew (S := (fun w' => w'.cell? ⟨b8, o8 + j, none⟩ = some (.string (strOf nm)) ∧ w'.cell? ⟨b8, o8 + i, none⟩ = some (.string (strOf nm2)))) (by kernel_rfl) ?_ (fun hS => ?_)
                · exact ⟨hc8c, hc9c⟩
                refine wpAnyH_take (i := 0) (oi := ?oi52) (v := ?v52) ?hi52 (by kernel_rfl) (by kernel_rfl) (by kernel_rfl) ?hq52 (Or.inl ⟨?hw52, ?hy52⟩) hS ?rest52
                case hi52 => simp only [List.getElem?_toArray, List.getElem?_cons_succ, List.getElem?_cons_zero]; rfl
                case hq52 => exact fun _ _ _ h => h
                case hw52 => rfl
                case hy52 => intro w hSw; (try dsimp only at hSw); go_simp; (try with_reducible rfl)
                try simp only [Act.put, List.setIfInBounds_toArray, List.set_cons_zero, List.set_cons_succ]
                refine wpAnyH_take (i := 1) (oi := ?oi53) (v := ?v53) ?hi53 (by kernel_rfl) (by kernel_rfl) (by kernel_rfl) ?hq53 (Or.inl ⟨?hw53, ?hy53⟩) hS ?rest53
                case hi53 => simp only [List.getElem?_toArray, List.getElem?_cons_succ, List.getElem?_cons_zero]; rfl
                case hq53 => exact fun _ _ _ h => h
                case hw53 => rfl
                case hy53 => intro w hSw; (try dsimp only at hSw); go_simp; (try with_reducible rfl)
                try simp only [Act.put, List.setIfInBounds_toArray, List.set_cons_zero, List.set_cons_succ]
                refine wpAnyH_take (i := 2) (oi := ?oi54) (v := ?v54) ?hi54 (by kernel_rfl) (by kernel_rfl) (by kernel_rfl) ?hq54 (Or.inl ⟨?hw54, ?hy54⟩) hS ?rest54
                case hi54 => simp only [List.getElem?_toArray, List.getElem?_cons_succ, List.getElem?_cons_zero]; rfl
                case hq54 => exact fun _ _ _ h => h
                case hw54 => rfl
                case hy54 => intro w hSw; (try dsimp only at hSw); go_simp; (try with_reducible rfl)
                try simp only [Act.put, List.setIfInBounds_toArray, List.set_cons_zero, List.set_cons_succ]
                refine wpAnyH_take (i := 3) (oi := ?oi55) (v := ?v55) ?hi55 (by kernel_rfl) (by kernel_rfl) (by kernel_rfl) ?hq55 (Or.inl ⟨?hw55, ?hy55⟩) hS ?rest55
                case hi55 => simp only [List.getElem?_toArray, List.getElem?_cons_succ, List.getElem?_cons_zero]; rfl
                case hq55 => exact fun _ _ _ h => h
                case hw55 => rfl
                case hy55 => intro w hSw; (try dsimp only at hSw); go_simp; (try with_reducible rfl)
                try simp only [Act.put, List.setIfInBounds_toArray, List.set_cons_zero, List.set_cons_succ]
                refine wpAnyH_take (i := 4) (oi := ?oi56) (v := ?v56) ?hi56 (by kernel_rfl) (by kernel_rfl) (by kernel_rfl) ?hq56 (Or.inl ⟨?hw56, ?hy56⟩) hS ?rest56
                case hi56 => simp only [List.getElem?_toArray, List.getElem?_cons_succ, List.getElem?_cons_zero]; rfl
                case hq56 => exact fun _ _ _ h => h
                case hw56 => rfl
                case hy56 => intro w hSw; (try dsimp only at hSw); go_simp; (try with_reducible rfl)
                try simp only [Act.put, List.setIfInBounds_toArray, List.set_cons_zero, List.set_cons_succ]
                refine wpAnyH_take (i := 5) (oi := ?oi57) (v := ?v57) ?hi57 (by kernel_rfl) (by kernel_rfl) (by kernel_rfl) ?hq57 (Or.inl ⟨?hw57, ?hy57⟩) hS ?rest57
                case hi57 => simp only [List.getElem?_toArray, List.getElem?_cons_succ, List.getElem?_cons_zero]; rfl
                case hq57 => exact fun _ _ _ h => h
                case hw57 => rfl
                case hy57 => intro w hSw; (try dsimp only at hSw); go_simp; (try with_reducible rfl)
                try simp only [Act.put, List.setIfInBounds_toArray, List.set_cons_zero, List.set_cons_succ]
                refine wpAnyH_take (i := 6) (oi := ?oi58) (v := ?v58) ?hi58 (by kernel_rfl) (by kernel_rfl) (by kernel_rfl) ?hq58 (Or.inl ⟨?hw58, ?hy58⟩) hS ?rest58
                case hi58 => simp only [List.getElem?_toArray, List.getElem?_cons_succ, List.getElem?_cons_zero]; rfl
                case hq58 => exact fun _ _ _ h => h
                case hw58 => rfl
                case hy58 => intro w hSw; (try dsimp only at hSw); go_simp; (try with_reducible rfl)
                try simp only [Act.put, List.setIfInBounds_toArray, List.set_cons_zero, List.set_cons_succ]
                refine wpAnyH_take (i := 7) (oi := ?oi59) (v := ?v59) ?hi59 (by kernel_rfl) (by kernel_rfl) (by kernel_rfl) ?hq59 (Or.inl ⟨?hw59, ?hy59⟩) hS ?rest59
                case hi59 => simp only [List.getElem?_toArray, List.getElem?_cons_succ, List.getElem?_cons_zero]; rfl
                case hq59 => exact fun _ _ _ h => h
                case hw59 => rfl
                case hy59 => intro w hSw; (try dsimp only at hSw); go_simp; (try with_reducible rfl)
                try simp only [Act.put, List.setIfInBounds_toArray, List.set_cons_zero, List.set_cons_succ]
                refine wpAnyH_take (i := 8) (oi := ?oi60) (v := ?v60) ?hi60 (by kernel_rfl) (by kernel_rfl) (by kernel_rfl) ?hq60 (Or.inl ⟨?hw60, ?hy60⟩) hS ?rest60
                case hi60 => simp only [List.getElem?_toArray, List.getElem?_cons_succ, List.getElem?_cons_zero]; rfl
                case hq60 => exact fun _ _ _ h => h
                case hw60 => rfl
                case hy60 => intro w hSw; (try dsimp only at hSw); go_simp; (try with_reducible rfl)
                try simp only [Act.put, List.setIfInBounds_toArray, List.set_cons_zero, List.set_cons_succ]
                refine wpAnyH_take (i := 9) (oi := ?oi61) (v := ?v61) ?hi61 (by kernel_rfl) (by kernel_rfl) (by kernel_rfl) ?hq61 (Or.inl ⟨?hw61, ?hy61⟩) hS ?rest61
                case hi61 => simp only [List.getElem?_toArray, List.getElem?_cons_succ, List.getElem?_cons_zero]; rfl
                case hq61 => exact fun _ _ _ h => h
                case hw61 => rfl
                case hy61 => intro w hSw; (try dsimp only at hSw); go_simp; (try with_reducible rfl)
                try simp only [Act.put, List.setIfInBounds_toArray, List.set_cons_zero, List.set_cons_succ]
                refine wpAnyH_take (i := 10) (oi := ?oi62) (v := ?v62) ?hi62 (by kernel_rfl) (by kernel_rfl) (by kernel_rfl) ?hq62 (Or.inl ⟨?hw62, ?hy62⟩) hS ?rest62
                case hi62 => simp only [List.getElem?_toArray, List.getElem?_cons_succ, List.getElem?_cons_zero]; rfl
                case hq62 => exact fun _ _ _ h => h
                case hw62 => rfl
                case hy62 => intro w hSw; (try dsimp only at hSw); go_simp; (try with_reducible rfl)
                try simp only [Act.put, List.setIfInBounds_toArray, List.set_cons_zero, List.set_cons_succ]
                refine wpAnyH_take (i := 11) (oi := ?oi63) (v := ?v63) ?hi63 (by kernel_rfl) (by kernel_rfl) (by kernel_rfl) ?hq63 (Or.inl ⟨?hw63, ?hy63⟩) hS ?rest63
                case hi63 => simp only [List.getElem?_toArray, List.getElem?_cons_succ, List.getElem?_cons_zero]; rfl
                case hq63 => exact fun _ _ _ h => h
                case hw63 => rfl
                case hy63 => intro w hSw; (try dsimp only at hSw); go_simp; (try with_reducible rfl)
                try simp only [Act.put, List.setIfInBounds_toArray, List.set_cons_zero, List.set_cons_succ]
                refine wpAnyH_take (i := 12) (oi := ?oi64) (v := ?v64) ?hi64 (by kernel_rfl) (by kernel_rfl) (by kernel_rfl) ?hq64 (Or.inl ⟨?hw64, ?hy64⟩) hS ?rest64
                case hi64 => simp only [List.getElem?_toArray, List.getElem?_cons_succ, List.getElem?_cons_zero]; rfl
                case hq64 => exact fun _ _ _ h => h
                case hw64 => rfl
                case hy64 => intro w hSw; (try dsimp only at hSw); go_simp; (try with_reducible rfl)
                try simp only [Act.put, List.setIfInBounds_toArray, List.set_cons_zero, List.set_cons_succ]
                refine wpAnyH_take (i := 13) (oi := ?oi65) (v := ?v65) ?hi65 (by kernel_rfl) (by kernel_rfl) (by kernel_rfl) ?hq65 (Or.inl ⟨?hw65, ?hy65⟩) hS ?rest65
                case hi65 => simp only [List.getElem?_toArray, List.getElem?_cons_succ, List.getElem?_cons_zero]; rfl
                case hq65 => exact fun _ _ _ h => h
                case hw65 => rfl
                case hy65 => intro w hSw; (try dsimp only at hSw); go_simp; (try with_reducible rfl)
                try simp only [Act.put, List.setIfInBounds_toArray, List.set_cons_zero, List.set_cons_succ]
                refine wpAnyH_done (by kernel_rfl) ?_ _
                refine NoPanic.normal ?_
                clear hS hc9c hls hwi hi0 hin
                go_wp2_with fail
                have hHS : ∀ w', Below wr.heap.size wr w' → w'.cell? ⟨b10, o10, none⟩ = some (.slice aq q.length cq) ∧ w'.cell? ⟨b8, o8 + j, none⟩ = some (.string (strOf nm)) := fun w' hb => ⟨(hb.cell (p := ⟨b10, o10, none⟩) (by simp only; omega)).trans zu2, (hb.cell (p := ⟨b8, o8 + j, none⟩) hb8w).trans hc8c⟩
                have HS20 := Lib.hid hHS
                have HQR : Hid (∀ w', Below wr.heap.size wr w' → RowAt (fun b => b < wr.heap.size) w' aq (q.length * 1) ((q.map strOf).map .string)) := fun w' hb => by
                  rw [Nat.mul_one]
                  exact HSQ.out.row.move (Nat.le_trans hsj hb.size) fun b hb' hbw => ⟨by omega, (hb.block b (by omega)).trans (HBJ.out.block b hbw)⟩
                have HLK : Hid (∀ w' A n2 c2, Below wr.heap.size wr w' → w'.ownsRow wr.heap.size 9 1 (.slice A n2 c2) n2 ((q.map strOf).map .string ++ [.string (strOf nm)]) → Calls Tryz.prog 47 #[ptr t, .slice A n2 c2] w' fun e w'' => (∃ d, e = .returned (.tuple #[.int .i64 d, .int .i64 0])) ∧ Below w'.heap.size w' w'') := fun w' A n2 c2 hb ho => by
                  obtain ⟨hl0, hnm9⟩ := HLOOK.out nm (List.mem_of_getElem? HNM.out)
                  have h9 := look_own (q := q ++ [nm]) (HT.out.grow (HB6.out.trans ((HBJ.out.trans (hb.mono hsj)).mono HB6.out.size))) (by simpa using ho) (fun z hz => by
                    rcases List.mem_append.1 hz with h1 | h1
                    · exact HQM.out z h1
                    · obtain rfl : z = nm := by simpa using h1
                      exact hnm9)
                  rw [hl0] at h9
                  refine h9.mono ?_
                  rintro e w2 ⟨rfl, hb2⟩
                  exact ⟨⟨_, rfl⟩, hb2⟩
                have hql64 : q.length ≤ 8 := hq8
                clear hHS hc8c zu2 hd4 hd5
                refine wp_region_noPanic ?_
                refine wp_region_L (last := 17) (S := (fun w' => w'.cell? ⟨b10, o10, none⟩ = some (.slice aq q.length cq) ∧ w'.cell? ⟨b8, o8 + j, none⟩ = some (.string (strOf nm)))) (by kernel_rfl) ?_ (fun hS => ?_)
                · exact HS20.out _ (Below.refl _ _).drew.drew
                refine wpAnyL_take (i := 0) (oi := ?oi66) (v := ?v66) ?hi66 (by kernel_rfl) (by kernel_rfl) (by kernel_rfl) (by kernel_rfl) (by kernel_rfl) ?hq66 (Or.inl ⟨?hw66, ?hy66⟩) hS ?rest66
                case hi66 => simp only [List.getElem?_toArray, List.getElem?_cons_succ, List.getElem?_cons_zero]; rfl
                case hq66 => exact fun _ _ _ h => h
                case hw66 => rfl
                case hy66 => intro w hSw; (try dsimp only at hSw); go_simp; (try with_reducible rfl)
                try simp only [Act.put, List.setIfInBounds_toArray, List.set_cons_zero, List.set_cons_succ]
                refine wpAnyL_take (i := 2) (oi := ?oi67) (v := ?v67) ?hi67 (by kernel_rfl) (by kernel_rfl) (by kernel_rfl) (by kernel_rfl) (by kernel_rfl) ?hq67 (Or.inl ⟨?hw67, ?hy67⟩) hS ?rest67
                case hi67 => simp only [List.getElem?_toArray, List.getElem?_cons_succ, List.getElem?_cons_zero]; rfl
                case hq67 => exact fun _ _ _ h => h
                case hw67 => rfl
                case hy67 => intro w hSw; (try dsimp only at hSw); go_simp; (try with_reducible rfl)
                try simp only [Act.put, List.setIfInBounds_toArray, List.set_cons_zero, List.set_cons_succ]
                refine wpAnyL_take (i := 3) (oi := ?oi68) (v := ?v68) ?hi68 (by kernel_rfl) (by kernel_rfl) (by kernel_rfl) (by kernel_rfl) (by kernel_rfl) ?hq68 (Or.inl ⟨?hw68, ?hy68⟩) hS ?rest68
                case hi68 => simp only [List.getElem?_toArray, List.getElem?_cons_succ, List.getElem?_cons_zero]; rfl
                case hq68 => exact fun _ _ _ h => h
                case hw68 => rfl
                case hy68 => intro w hSw; (try dsimp only at hSw); go_simp; (try with_reducible rfl)
                try simp only [Act.put, List.setIfInBounds_toArray, List.set_cons_zero, List.set_cons_succ]
                refine wpAnyL_take (i := 4) (oi := ?oi69) (v := ?v69) ?hi69 (by kernel_rfl) (by kernel_rfl) (by kernel_rfl) (by kernel_rfl) (by kernel_rfl) ?hq69 (Or.inl ⟨?hw69, ?hy69⟩) hS ?rest69
                case hi69 => simp only [List.getElem?_toArray, List.getElem?_cons_succ, List.getElem?_cons_zero]; rfl
                case hq69 => exact fun _ _ _ h => h
                case hw69 => rfl
                case hy69 => intro w hSw; (try dsimp only at hSw); go_simp; (try with_reducible rfl)
                try simp only [Act.put, List.setIfInBounds_toArray, List.set_cons_zero, List.set_cons_succ]
                refine wpAnyL_take (i := 6) (oi := ?oi70) (v := ?v70) ?hi70 (by kernel_rfl) (by kernel_rfl) (by kernel_rfl) (by kernel_rfl) (by kernel_rfl) ?hq70 (Or.inl ⟨?hw70, ?hy70⟩) hS ?rest70
                case hi70 => simp only [List.getElem?_toArray, List.getElem?_cons_succ, List.getElem?_cons_zero]; rfl
                case hq70 => exact fun _ _ _ h => h
                case hw70 => rfl
                case hy70 => intro w hSw; (try dsimp only at hSw); go_simp; (try with_reducible rfl)
                try simp only [Act.put, List.setIfInBounds_toArray, List.set_cons_zero, List.set_cons_succ]
                refine wpAnyL_take (i := 7) (oi := ?oi71) (v := ?v71) ?hi71 (by kernel_rfl) (by kernel_rfl) (by kernel_rfl) (by kernel_rfl) (by kernel_rfl) ?hq71 (Or.inl ⟨?hw71, ?hy71⟩) hS ?rest71
                case hi71 => simp only [List.getElem?_toArray, List.getElem?_cons_succ, List.getElem?_cons_zero]; rfl
                case hq71 => exact fun _ _ _ h => h
                case hw71 => rfl
                case hy71 => intro w hSw; (try dsimp only at hSw); go_simp; (try with_reducible rfl)
                try simp only [Act.put, List.setIfInBounds_toArray, List.set_cons_zero, List.set_cons_succ]
                refine wpAnyL_take (i := 8) (oi := ?oi72) (v := ?v72) ?hi72 (by kernel_rfl) (by kernel_rfl) (by kernel_rfl) (by kernel_rfl) (by kernel_rfl) ?hq72 (Or.inl ⟨?hw72, ?hy72⟩) hS ?rest72
                case hi72 => simp only [List.getElem?_toArray, List.getElem?_cons_succ, List.getElem?_cons_zero]; rfl
                case hq72 => exact fun _ _ _ h => h
                case hw72 => rfl
                case hy72 => intro w hSw; (try dsimp only at hSw); go_simp; (try with_reducible rfl)
                try simp only [Act.put, List.setIfInBounds_toArray, List.set_cons_zero, List.set_cons_succ]
                refine wpAnyL_take (i := 9) (oi := ?oi73) (v := ?v73) ?hi73 (by kernel_rfl) (by kernel_rfl) (by kernel_rfl) (by kernel_rfl) (by kernel_rfl) ?hq73 (Or.inl ⟨?hw73, ?hy73⟩) hS ?rest73
                case hi73 => simp only [List.getElem?_toArray, List.getElem?_cons_succ, List.getElem?_cons_zero]; rfl
                case hq73 => exact fun _ _ _ h => h
                case hw73 => rfl
                case hy73 => intro w hSw; (try dsimp only at hSw); go_simp; (try with_reducible rfl)
                try simp only [Act.put, List.setIfInBounds_toArray, List.set_cons_zero, List.set_cons_succ]
                refine wpAnyL_ready (rs := [1, 10]) (by kernel_rfl) (by simp) ?_
                refine AllReadyL.cons (o := ?o74) ?ho74 (fun K hK => ?wa) (AllReadyL.cons (o := ?o75) ?ho75 (fun K hK => ?wb) AllReadyL.nil)
                case ho74 => simp only [List.getElem?_toArray, List.getElem?_cons_succ, List.getElem?_cons_zero]; rfl
                case ho75 => simp only [List.getElem?_toArray, List.getElem?_cons_succ, List.getElem?_cons_zero]; rfl
                case wa =>
                  go_simp
                  refine hK.out _ _ (fun _ => HS20.out _ ((Below.refl _ _).drew.drew.alloc (Nat.le_refl _) _)) (fun hS => ?_)
                  replace hS := hS (by decide)
                  clear hK K
                  try simp only [Act.put, List.setIfInBounds_toArray, List.set_cons_zero, List.set_cons_succ]
                  refine wpAnyL_ready (rs := [5, 10]) (by kernel_rfl) (by simp) ?_
                  refine AllReadyL.cons (o := ?o76) ?ho76 (fun K hK => ?waa) (AllReadyL.cons (o := ?o77) ?ho77 (fun K hK => ?wab) AllReadyL.nil)
                  case ho76 => simp only [List.getElem?_toArray, List.getElem?_cons_succ, List.getElem?_cons_zero]; rfl
                  case ho77 => simp only [List.getElem?_toArray, List.getElem?_cons_succ, List.getElem?_cons_zero]; rfl
                  case waa =>
                    refine step_append_rows (by rfl) (.tmp 85) (.tmp 88) 36 (by rfl) wr.heap.size 9 Ts _ 1 16 Tryz.underlying36 HI.out.1 HI.out.2.1 HI.out.2.2.1 HI.out.2.2.2 rfl (by omega) _ 0 [] (by rfl) (own_new (MapKept.heap_alloc wr.drew.drew _).1 (Nat.le_refl _)) _ q.length _ ((q.map strOf).map .string) (by rfl) (HQR.out _ ((Below.refl _ _).drew.drew.alloc (Nat.le_refl _) _)) (by simp [Value.oneCell']) (by unfold maxLen; omega) (by omega) (by simp) ?_
                    intro A1 c1 u1 hown0 hb1
                    have hB0 : Below wr.heap.size wr u1 := ((Below.refl _ _).drew.drew.alloc (Nat.le_refl _) _).trans hb1
                    refine hK.out _ _ (fun _ => HS20.out _ hB0) (fun hS => ?_)
                    replace hS := hS (by decide)
                    clear hK K
                    try simp only [Act.put, List.setIfInBounds_toArray, List.set_cons_zero, List.set_cons_succ]
                    refine wpAnyL_ready (rs := [10]) (by kernel_rfl) (by simp) ?_
                    refine AllReadyL.cons (o := ?o78) ?ho78 (fun K hK => ?_) AllReadyL.nil
                    case ho78 => simp only [List.getElem?_toArray, List.getElem?_cons_succ, List.getElem?_cons_zero]; rfl
                    go_simp
                    refine hK.out _ _ (fun _ => HS20.out _ (hB0.alloc hB0.size _)) (fun hS => ?_)
                    replace hS := hS (by decide)
                    clear hK K
                    try simp only [Act.put, List.setIfInBounds_toArray, List.set_cons_zero, List.set_cons_succ]
                    rw [Nat.zero_add, List.nil_append] at hown0
                    have hown1 := own_below hown0 ((Below.refl _ _).alloc (Nat.le_refl _) (.cells #[.string (strOf nm)] 9))
                    have hrow := one_row (w := u1) (.string (strOf nm)) 9
                    have hB1 : Below wr.heap.size wr (u1.alloc (.cells #[.string (strOf nm)] 9)) := hB0.alloc hB0.size _
                    refine wpAnyL_ready (rs := [11]) (by kernel_rfl) (by simp) ?_
                    refine AllReadyL.cons (o := ?o79) ?ho79 (fun K hK => ?_) AllReadyL.nil
                    case ho79 => simp only [List.getElem?_toArray, List.getElem?_cons_succ, List.getElem?_cons_zero]; rfl
                    refine step_append_rows (by rfl) (.tmp 89) (.tmp 94) 36 (by rfl) wr.heap.size 9 Ts _ 1 16 Tryz.underlying36 HI.out.1 HI.out.2.1 HI.out.2.2.1 HI.out.2.2.2 rfl (by omega) _ _ _ (by rfl) hown1 _ 1 _ [.string (strOf nm)] (by rfl) hrow (by simp [Value.oneCell']) (by unfold maxLen; omega) (by omega) hB1.size ?_
                    intro A2 c2 u2 hown2 hb2
                    have hB2 : Below wr.heap.size wr u2 := hB1.trans hb2
                    refine hK.out _ _ (fun _ => HS20.out _ hB2) (fun hS => ?_)
                    replace hS := hS (by decide)
                    clear hK K
                    try simp only [Act.put, List.setIfInBounds_toArray, List.set_cons_zero, List.set_cons_succ]
                    refine wpAnyL_ready (rs := [12]) (by kernel_rfl) (by simp) ?_
                    refine AllReadyL.cons (o := ?o80) ?ho80 (fun K hK => ?_) AllReadyL.nil
                    case ho80 => simp only [List.getElem?_toArray, List.getElem?_cons_succ, List.getElem?_cons_zero]; rfl
                    go_simp
                    (with_reducible refine (HLK.out _ _ _ _ hB2 hown2).mono ?_)
                    rintro e u3 ⟨⟨d9, rfl⟩, hb3⟩
                    have hB3 : Below wr.heap.size wr u3 := hB2.trans (hb3.mono hB2.size)
                    go_wp2_with fail
                    refine hK.out _ _ (fun _ => HS20.out _ hB3) (fun hS => ?_)
                    replace hS := hS (by decide)
                    clear hK K
                    try simp only [Act.put, List.setIfInBounds_toArray, List.set_cons_zero, List.set_cons_succ]
                    refine wpAnyL_take (i := 13) (oi := ?oi81) (v := ?v81) ?hi81 (by kernel_rfl) (by kernel_rfl) (by kernel_rfl) (by kernel_rfl) (by kernel_rfl) ?hq81 (Or.inl ⟨?hw81, ?hy81⟩) hS ?rest81
                    case hi81 => simp only [List.getElem?_toArray, List.getElem?_cons_succ, List.getElem?_cons_zero]; rfl
                    case hq81 => exact fun _ _ _ h => h
                    case hw81 => rfl
                    case hy81 => intro w hSw; (try dsimp only at hSw); go_simp; (try with_reducible rfl)
                    try simp only [Act.put, List.setIfInBounds_toArray, List.set_cons_zero, List.set_cons_succ]
                    refine wpAnyL_take (i := 14) (oi := ?oi82) (v := ?v82) ?hi82 (by kernel_rfl) (by kernel_rfl) (by kernel_rfl) (by kernel_rfl) (by kernel_rfl) ?hq82 (Or.inl ⟨?hw82, ?hy82⟩) hS ?rest82
                    case hi82 => simp only [List.getElem?_toArray, List.getElem?_cons_succ, List.getElem?_cons_zero]; rfl
                    case hq82 => exact fun _ _ _ h => h
                    case hw82 => rfl
                    case hy82 => intro w hSw; (try dsimp only at hSw); go_simp; (try with_reducible rfl)
                    try simp only [Act.put, List.setIfInBounds_toArray, List.set_cons_zero, List.set_cons_succ]
                    refine wpAnyL_take (i := 15) (oi := ?oi83) (v := ?v83) ?hi83 (by kernel_rfl) (by kernel_rfl) (by kernel_rfl) (by kernel_rfl) (by kernel_rfl) ?hq83 (Or.inl ⟨?hw83, ?hy83⟩) hS ?rest83
                    case hi83 => simp only [List.getElem?_toArray, List.getElem?_cons_succ, List.getElem?_cons_zero]; rfl
                    case hq83 => exact fun _ _ _ h => h
                    case hw83 => rfl
                    case hy83 => intro w hSw; (try dsimp only at hSw); go_simp; (try with_reducible rfl)
                    try simp only [Act.put, List.setIfInBounds_toArray, List.set_cons_zero, List.set_cons_succ]
                    refine wpAnyL_take (i := 16) (oi := ?oi84) (v := ?v84) ?hi84 (by kernel_rfl) (by kernel_rfl) (by kernel_rfl) (by kernel_rfl) (by kernel_rfl) ?hq84 (Or.inl ⟨?hw84, ?hy84⟩) hS ?rest84
                    case hi84 => simp only [List.getElem?_toArray, List.getElem?_cons_succ, List.getElem?_cons_zero]; rfl
                    case hq84 => exact fun _ _ _ h => h
                    case hw84 => rfl
                    case hy84 => intro w hSw; (try dsimp only at hSw); go_simp; (try with_reducible rfl)
                    try simp only [Act.put, List.setIfInBounds_toArray, List.set_cons_zero, List.set_cons_succ]
                    refine wpAnyL_ready (rs := [17]) (by kernel_rfl) (by simp) ?_
                    refine AllReadyL.cons (o := ?o85) ?ho85 (fun K hK => ?_) AllReadyL.nil
                    case ho85 => simp only [List.getElem?_toArray, List.getElem?_cons_succ, List.getElem?_cons_zero]; rfl
                    go_simp
                    refine hK.out _ _ (fun h => absurd rfl h) (fun hS => ?_)
                    clear hS hK K
                    try simp only [Act.put, List.setIfInBounds_toArray, List.set_cons_zero, List.set_cons_succ]
                    refine wpAnyL_done (by kernel_rfl) ?_ _
                    refine NoPanic.normal ?_
                    go_wp2_with fail
                    go_roundw
                    case rel => exact ⟨j + 1, by omega, by go_num, HBJ.out.trans (hB3.mono hsj)⟩
                    case measure => simp [intOf]; omega
                  case wab =>
                    go_simp
                    refine hK.out _ _ (fun _ => HS20.out _ (((Below.refl _ _).drew.drew.alloc (Nat.le_refl _) _).alloc (by simp <;> omega) _)) (fun hS => ?_)
                    replace hS := hS (by decide)
                    clear hK K
                    try simp only [Act.put, List.setIfInBounds_toArray, List.set_cons_zero, List.set_cons_succ]
                    refine wpAnyL_ready (rs := [5]) (by kernel_rfl) (by simp) ?_
                    refine AllReadyL.cons (o := ?o86) ?ho86 (fun K hK => ?_) AllReadyL.nil
                    case ho86 => simp only [List.getElem?_toArray, List.getElem?_cons_succ, List.getElem?_cons_zero]; rfl
                    refine step_append_grown (by rfl) (.tmp 85) (.tmp 88) 36 (by rfl) wr.heap.size 9 Ts _ 1 16 Tryz.underlying36 HI.out.1 HI.out.2.1 HI.out.2.2.1 HI.out.2.2.2 rfl (by omega) _ 0 [] (by rfl) (own_new (two_new wr.drew _ _).1 (Nat.le_refl _)) _ q.length _ ((q.map strOf).map .string) (by rfl) (HQR.out _ (((Below.refl _ _).drew.drew.alloc (Nat.le_refl _) _).alloc (by simp <;> omega) _)) (by simp [Value.oneCell']) (by unfold maxLen; omega) (by omega) (by simp <;> omega) ?_
                    intro A1 c1 u1 hown1 hb1 hg1
                    have hB1 : Below wr.heap.size wr u1 := (((Below.refl _ _).drew.drew.alloc (Nat.le_refl _) _).alloc (by simp <;> omega) _).trans hb1
                    have hrow := (row_blk (vs := [.string (strOf nm)]) (two_new wr.drew (.cells #[] 9) (.cells #[.string (strOf nm)] 9)).2 (by simp [maxLen])).grown hg1 (fun b hb hbw => by subst hb; simp [Value.ownBlock])
                    refine hK.out _ _ (fun _ => HS20.out _ hB1) (fun hS => ?_)
                    replace hS := hS (by decide)
                    clear hK K
                    try simp only [Act.put, List.setIfInBounds_toArray, List.set_cons_zero, List.set_cons_succ]
                    refine wpAnyL_ready (rs := [11]) (by kernel_rfl) (by simp) ?_
                    refine AllReadyL.cons (o := ?o87) ?ho87 (fun K hK => ?_) AllReadyL.nil
                    case ho87 => simp only [List.getElem?_toArray, List.getElem?_cons_succ, List.getElem?_cons_zero]; rfl
                    refine step_append_rows (by rfl) (.tmp 89) (.tmp 94) 36 (by rfl) wr.heap.size 9 Ts _ 1 16 Tryz.underlying36 HI.out.1 HI.out.2.1 HI.out.2.2.1 HI.out.2.2.2 rfl (by omega) _ _ _ (by rfl) hown1 _ 1 _ [.string (strOf nm)] (by rfl) hrow (by simp [Value.oneCell']) (by unfold maxLen; omega) (by omega) hB1.size ?_
                    intro A2 c2 u2 hown2 hb2
                    rw [Nat.zero_add, List.nil_append] at hown2
                    have hB2 : Below wr.heap.size wr u2 := hB1.trans hb2
                    refine hK.out _ _ (fun _ => HS20.out _ hB2) (fun hS => ?_)
                    replace hS := hS (by decide)
                    clear hK K
                    try simp only [Act.put, List.setIfInBounds_toArray, List.set_cons_zero, List.set_cons_succ]
                    refine wpAnyL_ready (rs := [12]) (by kernel_rfl) (by simp) ?_
                    refine AllReadyL.cons (o := ?o88) ?ho88 (fun K hK => ?_) AllReadyL.nil
                    case ho88 => simp only [List.getElem?_toArray, List.getElem?_cons_succ, List.getElem?_cons_zero]; rfl
                    go_simp
                    (with_reducible refine (HLK.out _ _ _ _ hB2 hown2).mono ?_)
                    rintro e u3 ⟨⟨d9, rfl⟩, hb3⟩
                    have hB3 : Below wr.heap.size wr u3 := hB2.trans (hb3.mono hB2.size)
                    go_wp2_with fail
                    refine hK.out _ _ (fun _ => HS20.out _ hB3) (fun hS => ?_)
                    replace hS := hS (by decide)
                    clear hK K
                    try simp only [Act.put, List.setIfInBounds_toArray, List.set_cons_zero, List.set_cons_succ]
                    refine wpAnyL_take (i := 13) (oi := ?oi89) (v := ?v89) ?hi89 (by kernel_rfl) (by kernel_rfl) (by kernel_rfl) (by kernel_rfl) (by kernel_rfl) ?hq89 (Or.inl ⟨?hw89, ?hy89⟩) hS ?rest89
                    case hi89 => simp only [List.getElem?_toArray, List.getElem?_cons_succ, List.getElem?_cons_zero]; rfl
                    case hq89 => exact fun _ _ _ h => h
                    case hw89 => rfl
                    case hy89 => intro w hSw; (try dsimp only at hSw); go_simp; (try with_reducible rfl)
                    try simp only [Act.put, List.setIfInBounds_toArray, List.set_cons_zero, List.set_cons_succ]
                    refine wpAnyL_take (i := 14) (oi := ?oi90) (v := ?v90) ?hi90 (by kernel_rfl) (by kernel_rfl) (by kernel_rfl) (by kernel_rfl) (by kernel_rfl) ?hq90 (Or.inl ⟨?hw90, ?hy90⟩) hS ?rest90
                    case hi90 => simp only [List.getElem?_toArray, List.getElem?_cons_succ, List.getElem?_cons_zero]; rfl
                    case hq90 => exact fun _ _ _ h => h
                    case hw90 => rfl
                    case hy90 => intro w hSw; (try dsimp only at hSw); go_simp; (try with_reducible rfl)
                    try simp only [Act.put, List.setIfInBounds_toArray, List.set_cons_zero, List.set_cons_succ]
                    refine wpAnyL_take (i := 15) (oi := ?oi91) (v := ?v91) ?hi91 (by kernel_rfl) (by kernel_rfl) (by kernel_rfl) (by kernel_rfl) (by kernel_rfl) ?hq91 (Or.inl ⟨?hw91, ?hy91⟩) hS ?rest91
                    case hi91 => simp only [List.getElem?_toArray, List.getElem?_cons_succ, List.getElem?_cons_zero]; rfl
                    case hq91 => exact fun _ _ _ h => h
                    case hw91 => rfl
                    case hy91 => intro w hSw; (try dsimp only at hSw); go_simp; (try with_reducible rfl)
                    try simp only [Act.put, List.setIfInBounds_toArray, List.set_cons_zero, List.set_cons_succ]
                    refine wpAnyL_take (i := 16) (oi := ?oi92) (v := ?v92) ?hi92 (by kernel_rfl) (by kernel_rfl) (by kernel_rfl) (by kernel_rfl) (by kernel_rfl) ?hq92 (Or.inl ⟨?hw92, ?hy92⟩) hS ?rest92
                    case hi92 => simp only [List.getElem?_toArray, List.getElem?_cons_succ, List.getElem?_cons_zero]; rfl
                    case hq92 => exact fun _ _ _ h => h
                    case hw92 => rfl
                    case hy92 => intro w hSw; (try dsimp only at hSw); go_simp; (try with_reducible rfl)
                    try simp only [Act.put, List.setIfInBounds_toArray, List.set_cons_zero, List.set_cons_succ]
                    refine wpAnyL_ready (rs := [17]) (by kernel_rfl) (by simp) ?_
                    refine AllReadyL.cons (o := ?o93) ?ho93 (fun K hK => ?_) AllReadyL.nil
                    case ho93 => simp only [List.getElem?_toArray, List.getElem?_cons_succ, List.getElem?_cons_zero]; rfl
                    go_simp
                    refine hK.out _ _ (fun h => absurd rfl h) (fun hS => ?_)
                    clear hS hK K
                    try simp only [Act.put, List.setIfInBounds_toArray, List.set_cons_zero, List.set_cons_succ]
                    refine wpAnyL_done (by kernel_rfl) ?_ _
                    refine NoPanic.normal ?_
                    go_wp2_with fail
                    go_roundw
                    case rel => exact ⟨j + 1, by omega, by go_num, HBJ.out.trans (hB3.mono hsj)⟩
                    case measure => simp [intOf]; omega
                case wb =>
                  go_simp
                  refine hK.out _ _ (fun _ => HS20.out _ ((Below.refl _ _).drew.drew.alloc (Nat.le_refl _) _)) (fun hS => ?_)
                  replace hS := hS (by decide)
                  clear hK K
                  try simp only [Act.put, List.setIfInBounds_toArray, List.set_cons_zero, List.set_cons_succ]
                  refine wpAnyL_ready (rs := [1]) (by kernel_rfl) (by simp) ?_
                  refine AllReadyL.cons (o := ?o94) ?ho94 (fun K hK => ?_) AllReadyL.nil
                  case ho94 => simp only [List.getElem?_toArray, List.getElem?_cons_succ, List.getElem?_cons_zero]; rfl
                  go_simp
                  refine hK.out _ _ (fun _ => HS20.out _ (((Below.refl _ _).drew.drew.alloc (Nat.le_refl _) _).alloc (by simp <;> omega) _)) (fun hS => ?_)
                  replace hS := hS (by decide)
                  clear hK K
                  try simp only [Act.put, List.setIfInBounds_toArray, List.set_cons_zero, List.set_cons_succ]
                  refine wpAnyL_ready (rs := [5]) (by kernel_rfl) (by simp) ?_
                  refine AllReadyL.cons (o := ?o95) ?ho95 (fun K hK => ?_) AllReadyL.nil
                  case ho95 => simp only [List.getElem?_toArray, List.getElem?_cons_succ, List.getElem?_cons_zero]; rfl
                  refine step_append_grown (by rfl) (.tmp 85) (.tmp 88) 36 (by rfl) wr.heap.size 9 Ts _ 1 16 Tryz.underlying36 HI.out.1 HI.out.2.1 HI.out.2.2.1 HI.out.2.2.2 rfl (by omega) _ 0 [] (by rfl) (own_new (two_new wr.drew _ _).2 (Nat.le_succ _)) _ q.length _ ((q.map strOf).map .string) (by rfl) (HQR.out _ (((Below.refl _ _).drew.drew.alloc (Nat.le_refl _) _).alloc (by simp <;> omega) _)) (by simp [Value.oneCell']) (by unfold maxLen; omega) (by omega) (by simp <;> omega) ?_
                  intro A1 c1 u1 hown1 hb1 hg1
                  have hB1 : Below wr.heap.size wr u1 := (((Below.refl _ _).drew.drew.alloc (Nat.le_refl _) _).alloc (by simp <;> omega) _).trans hb1
                  have hrow := (row_blk (vs := [.string (strOf nm)]) (two_new wr.drew (.cells #[.string (strOf nm)] 9) (.cells #[] 9)).1 (by simp [maxLen])).grown hg1 (fun b hb hbw => by subst hb; simp [Value.ownBlock])
                  refine hK.out _ _ (fun _ => HS20.out _ hB1) (fun hS => ?_)
                  replace hS := hS (by decide)
                  clear hK K
                  try simp only [Act.put, List.setIfInBounds_toArray, List.set_cons_zero, List.set_cons_succ]
                  refine wpAnyL_ready (rs := [11]) (by kernel_rfl) (by simp) ?_
                  refine AllReadyL.cons (o := ?o96) ?ho96 (fun K hK => ?_) AllReadyL.nil
                  case ho96 => simp only [List.getElem?_toArray, List.getElem?_cons_succ, List.getElem?_cons_zero]; rfl
                  refine step_append_rows (by rfl) (.tmp 89) (.tmp 94) 36 (by rfl) wr.heap.size 9 Ts _ 1 16 Tryz.underlying36 HI.out.1 HI.out.2.1 HI.out.2.2.1 HI.out.2.2.2 rfl (by omega) _ _ _ (by rfl) hown1 _ 1 _ [.string (strOf nm)] (by rfl) hrow (by simp [Value.oneCell']) (by unfold maxLen; omega) (by omega) hB1.size ?_
                  intro A2 c2 u2 hown2 hb2
                  rw [Nat.zero_add, List.nil_append] at hown2
                  have hB2 : Below wr.heap.size wr u2 := hB1.trans hb2
                  refine hK.out _ _ (fun _ => HS20.out _ hB2) (fun hS => ?_)
                  replace hS := hS (by decide)
                  clear hK K
                  try simp only [Act.put, List.setIfInBounds_toArray, List.set_cons_zero, List.set_cons_succ]
                  refine wpAnyL_ready (rs := [12]) (by kernel_rfl) (by simp) ?_
                  refine AllReadyL.cons (o := ?o97) ?ho97 (fun K hK => ?_) AllReadyL.nil
                  case ho97 => simp only [List.getElem?_toArray, List.getElem?_cons_succ, List.getElem?_cons_zero]; rfl
                  go_simp
                  (with_reducible refine (HLK.out _ _ _ _ hB2 hown2).mono ?_)
                  rintro e u3 ⟨⟨d9, rfl⟩, hb3⟩
                  have hB3 : Below wr.heap.size wr u3 := hB2.trans (hb3.mono hB2.size)
                  go_wp2_with fail
                  refine hK.out _ _ (fun _ => HS20.out _ hB3) (fun hS => ?_)
                  replace hS := hS (by decide)
                  clear hK K
                  try simp only [Act.put, List.setIfInBounds_toArray, List.set_cons_zero, List.set_cons_succ]
                  refine wpAnyL_take (i := 13) (oi := ?oi98) (v := ?v98) ?hi98 (by kernel_rfl) (by kernel_rfl) (by kernel_rfl) (by kernel_rfl) (by kernel_rfl) ?hq98 (Or.inl ⟨?hw98, ?hy98⟩) hS ?rest98
                  case hi98 => simp only [List.getElem?_toArray, List.getElem?_cons_succ, List.getElem?_cons_zero]; rfl
                  case hq98 => exact fun _ _ _ h => h
                  case hw98 => rfl
                  case hy98 => intro w hSw; (try dsimp only at hSw); go_simp; (try with_reducible rfl)
                  try simp only [Act.put, List.setIfInBounds_toArray, List.set_cons_zero, List.set_cons_succ]
                  refine wpAnyL_take (i := 14) (oi := ?oi99) (v := ?v99) ?hi99 (by kernel_rfl) (by kernel_rfl) (by kernel_rfl) (by kernel_rfl) (by kernel_rfl) ?hq99 (Or.inl ⟨?hw99, ?hy99⟩) hS ?rest99
                  case hi99 => simp only [List.getElem?_toArray, List.getElem?_cons_succ, List.getElem?_cons_zero]; rfl
                  case hq99 => exact fun _ _ _ h => h
                  case hw99 => rfl
                  case hy99 => intro w hSw; (try dsimp only at hSw); go_simp; (try with_reducible rfl)
                  try simp only [Act.put, List.setIfInBounds_toArray, List.set_cons_zero, List.set_cons_succ]
                  refine wpAnyL_take (i := 15) (oi := ?oi100) (v := ?v100) ?hi100 (by kernel_rfl) (by kernel_rfl) (by kernel_rfl) (by kernel_rfl) (by kernel_rfl) ?hq100 (Or.inl ⟨?hw100, ?hy100⟩) hS ?rest100
                  case hi100 => simp only [List.getElem?_toArray, List.getElem?_cons_succ, List.getElem?_cons_zero]; rfl
                  case hq100 => exact fun _ _ _ h => h
                  case hw100 => rfl
                  case hy100 => intro w hSw; (try dsimp only at hSw); go_simp; (try with_reducible rfl)
                  try simp only [Act.put, List.setIfInBounds_toArray, List.set_cons_zero, List.set_cons_succ]
                  refine wpAnyL_take (i := 16) (oi := ?oi101) (v := ?v101) ?hi101 (by kernel_rfl) (by kernel_rfl) (by kernel_rfl) (by kernel_rfl) (by kernel_rfl) ?hq101 (Or.inl ⟨?hw101, ?hy101⟩) hS ?rest101
                  case hi101 => simp only [List.getElem?_toArray, List.getElem?_cons_succ, List.getElem?_cons_zero]; rfl
                  case hq101 => exact fun _ _ _ h => h
                  case hw101 => rfl
                  case hy101 => intro w hSw; (try dsimp only at hSw); go_simp; (try with_reducible rfl)
                  try simp only [Act.put, List.setIfInBounds_toArray, List.set_cons_zero, List.set_cons_succ]
                  refine wpAnyL_ready (rs := [17]) (by kernel_rfl) (by simp) ?_
                  refine AllReadyL.cons (o := ?o102) ?ho102 (fun K hK => ?_) AllReadyL.nil
                  case ho102 => simp only [List.getElem?_toArray, List.getElem?_cons_succ, List.getElem?_cons_zero]; rfl
                  go_simp
                  refine hK.out _ _ (fun h => absurd rfl h) (fun hS => ?_)
                  clear hS hK K
                  try simp only [Act.put, List.setIfInBounds_toArray, List.set_cons_zero, List.set_cons_succ]
                  refine wpAnyL_done (by kernel_rfl) ?_ _
                  refine NoPanic.normal ?_
                  go_wp2_with fail
                  go_roundw
                  case rel => exact ⟨j + 1, by omega, by go_num, HBJ.out.trans (hB3.mono hsj)⟩
                  case measure => simp [intOf]; omega
            · have hd3 : decide ((j : Int) < (n : Int)) = false := by simpa using hjn
              have zu2 := (HBJ.out.cell (p := ⟨b10, o10, none⟩) hb10).trans zu
              have hb10w : b10 < wr.heap.size := by omega
              have HQR : Hid (∀ w', Below wr.heap.size wr w' → RowAt (fun b => b < wr.heap.size) w' aq (q.length * 1) ((q.map strOf).map .string)) := fun w' hb => by
                rw [Nat.mul_one]
                exact HSQ.out.row.move (Nat.le_trans hsj hb.size) fun b hb' hbw => ⟨by omega, (hb.block b (by omega)).trans (HBJ.out.block b hbw)⟩
              have hlk : ∀ w' A n2 c2, Below wr.heap.size wr w' → w'.ownsRow wr.heap.size 9 1 (.slice A n2 c2) n2 ((q.map strOf).map .string ++ [.string (strOf nmNone)]) → Calls Tryz.prog 47 #[ptr t, .slice A n2 c2] w' fun e w'' => e = .returned (.tuple #[.int .i64 (lookE T (q ++ [nmNone])).1, .int .i64 (lookE T (q ++ [nmNone])).2]) ∧ Below w'.heap.size w' w'' := fun w' A n2 c2 hb ho =>
                look_own (q := q ++ [nmNone]) (HT.out.grow (HB6.out.trans ((HBJ.out.trans (hb.mono hsj)).mono HB6.out.size))) (by simpa using ho) (fun z hz => by
                  rcases List.mem_append.1 hz with h1 | h1
                  · exact HQM.out z h1
                  · obtain rfl : z = nmNone := by simpa using h1
                    decide)
              have hno := HNONE.out
              generalize (lookE T (q ++ [nmNone])).1 = E1 at hlk
              generalize (lookE T (q ++ [nmNone])).2 = E2 at hlk hno
              have HLK := Lib.hid hlk
              have HNO := Lib.hid hno
              clear hlk hno
              have hql64 : q.length ≤ 8 := hq8
              go_wp2_with (first | (at_builtin; refine wpList_append_rows rfl _ _ 36 rfl wr.heap.size 9 Ts _ 1 16 Tryz.underlying36 HI.out.1 HI.out.2.1 HI.out.2.2.1 HI.out.2.2.2 rfl (by omega) _ 0 [] rfl (own_new (MapKept.heap_alloc wr _).1 (Nat.le_refl _)) aq q.length cq ((q.map strOf).map .string) rfl (HQR.out _ (wall wr _)) (by simp [Value.oneCell']) (by unfold maxLen; omega) (by omega) (by simp) ?_; intro A1 c1 u1 hown1 hb1; rw [Nat.zero_add, List.nil_append] at hown1) | (at_builtin; refine wpList_append_rows rfl _ _ 36 rfl wr.heap.size 9 Ts _ 1 16 Tryz.underlying36 HI.out.1 HI.out.2.1 HI.out.2.2.1 HI.out.2.2.2 rfl (by omega) _ q.length _ rfl (own_below hown1 ((Below.refl _ _).alloc (Nat.le_refl _) _)) (some ⟨u1.heap.size, 0, none⟩) 1 1 [.string ⟨#[110, 111, 110, 101, 45, 115, 117, 99, 104]⟩] rfl (one_row _ _) (by simp [Value.oneCell']) (by unfold maxLen; omega) (by omega) (by have := hb1.size; simp at this ⊢; omega) ?_; intro A2 c2 u2 hown2 hb2))
              have hB1 : Below wr.heap.size wr u1 := (wall wr (.cells #[] 9)).trans hb1
              have hB2 : Below wr.heap.size wr u2 := (hB1.alloc hB1.size (.cells #[.string ⟨#[110, 111, 110, 101, 45, 115, 117, 99, 104]⟩] 9)).trans hb2
              (with_reducible refine (HLK.out _ _ _ _ hB2 hown2).mono ?_)
              rintro e u3 ⟨rfl, hb3⟩
              have hB3 : Below wr.heap.size wr u3 := hB2.trans (hb3.mono hB2.size)
              have zu4 := (hB3.cell (p := ⟨b10, o10, none⟩) hb10w).trans zu2
              have HBZ := Lib.hid (HB6.out.trans ((HBJ.out.trans (hB3.mono hsj)).mono HB6.out.size))
              clear hb1 hb2 hb3 hown1 hown2 hB1 hB2 hB3 zu2 zu
              by_cases hq7 : q.length < 8
              · have hd6 : decide ((q.length : Int) < 8) = true := by simp; omega
                have h20 := HNO.out hq7
                subst h20
                clear hq7
                go_wp2_with fail
                go_roundw
                case rel => exact ⟨k + 1, HKL.out, rfl, HBZ.out⟩
                case measure => exact id_less HKL.out
              · have hd6 : decide ((q.length : Int) < 8) = false := by simp; omega
                clear hq7
                go_wp2_with fail
                go_roundw
                case rel => exact ⟨k + 1, HKL.out, rfl, HBZ.out⟩
                case measure => exact id_less HKL.out
        · have hnode : nodeM T (k : Int) = nodeV (k : Int) x := by unfold nodeM; rw [hx]
          rw [hnode, hx] at HND
          unfold nodeV at HND
          rw [list_file hx hk2] at HLS
          simp only [Option.isSome_some] at HND
          have hd2 : (x.kind != 2) = true := by simpa using hk2
          clear hx hnode hk2
          go_wp2_with fail
          (with_reducible refine HND.out.mono ?_)
          rintro e w2 ⟨rfl, hb2⟩
          have HB2 := Lib.hid (HB.out.trans (hb2.mono hBs))
          have HB3 := Lib.hid (HB2.out.alloc HB2.out.size (.cells #[.int .i64 (k : Int), .int .i64 x.kind, .int .i64 x.links, .int .i64 x.b.length, .int .u64 x.til, .bool x.closed] 29))
          clear hb2
          go_wp2_with fail
          (with_reducible refine (HLS.out _ HB3.out).mono ?_)
          rintro e w3 ⟨a3, c3, rfl, -, -, hb3⟩
          have z1 := (hb3.cell (p := ⟨w2.heap.size, 1, none⟩) (by simp)).trans (item_block (MapKept.heap_alloc w2 _).1 1)
          simp only [List.getElem?_toArray, List.getElem?_cons_succ, List.getElem?_cons_zero] at z1
          have HB4 := Lib.hid (HB3.out.trans (hb3.mono HB3.out.size))
          clear hb3
          go_wp2_with fail
          go_roundw
          case rel => exact ⟨k + 1, HKL.out, rfl, HB4.out⟩
          case measure => exact id_less HKL.out
    · have hd1 : decide ((k : Int) < 64) = false := by simp; omega
      clear hlt hk
      go_wp2_with fail
      (with_reducible refine (known11_any _).mono ?_)
      rintro e w2 ⟨rfl, hb2⟩
      have HB2 := Lib.hid (HB1.out.trans ((HB.out.trans (hb2.mono hBs)).mono HB1.out.size))
      clear hb2
      go_wp2_with fail
      go_ret
      exact ⟨rfl, HB2.out⟩
end Go.Proofs.YtbapdoicejakhaaGreat.treeLists
