/- worm.Live, worm.Bound of a tree. -/
import Derived.Test.YtcmlfaolooglfaaTreeIDs
import Derived.Test.YtcmlfaolooglfaaWorm
import Derived.Test.YtcmlfaolooglfaaAppend
namespace Go.Proofs.Ytcmlfaolooglfaa
open Go.ChangeShapes Go.WideShapes Go.ChangeAt Go.RowKit
set_option linter.unusedVariables false
set_option linter.unusedSimpArgs false

theorem infoInt : (Try.prog.info? 3).map (fun i => (i.zero, i.size, i.bytes)) = some (some (.int .i64 0), 1, 8) := by kernel_rfl
def livesB (x : ItM) (now : Int) : Bool := decide (x.kind = 1) && x.closed && decide (now < x.til)
def liveM (T : TrM) (now : Int) : List Int := (T.filter fun q => livesB q.2 now).map (·.1)
theorem liveM_take {T : TrM} {now : Int} {k : Nat} {q : Int × ItM} (h : T[k]? = some q) : liveM (T.take (k + 1)) now = liveM (T.take k) now ++ if livesB q.2 now then [q.1] else [] := by
  obtain ⟨hk, e⟩ := List.getElem?_eq_some_iff.1 h
  unfold liveM
  rw [List.take_succ_eq_append_getElem hk, e, List.filter_append, List.map_append]
  congr 1
  by_cases hl : livesB q.2 now <;> simp [hl]
theorem liveM_len (T : TrM) (now : Int) (k : Nat) : (liveM (T.take k) now).length ≤ k := by
  unfold liveM
  rw [List.length_map]
  refine Nat.le_trans (List.length_filter_le _ _) ?_
  rw [List.length_take]; omega
theorem one_ints (zs : List Int) : ∀ u ∈ zs.map (Value.int .i64), u.oneCell' = true := by
  intro u hu; obtain ⟨x, _, rfl⟩ := List.mem_map.1 hu; rfl
theorem own_keeps {w w' : World} {base : Nat} {e : TypeId} {size : Nat} {v : Value} {n : Nat} {xs : List Value} {fp : Nat → Prop} (h : w.ownsRow base e size v n xs) (hK : Keeps fp w w') (hn : ∀ b, v.ownBlock = some b → ¬ fp b) : w'.ownsRow base e size v n xs := by
  refine ⟨h.1, ?_⟩
  rcases h.2 with h0 | ⟨g, cap, cur, rfl, hb, hg, r⟩
  · exact .inl h0
  · exact .inr ⟨g, cap, cur, rfl, hb, (hK.block g (Array.getElem?_eq_some_iff.1 hg).1 (hn g rfl)).trans hg, r⟩
theorem own_low {w : World} {base : Nat} {e : TypeId} {size : Nat} {v : Value} {n : Nat} {xs : List Value} (h : w.ownsRow base e size v n xs) : ∀ b, v.ownBlock = some b → b < w.heap.size := by
  intro b hb
  rcases h.2 with ⟨rfl, _⟩ | ⟨g, cap, cur, rfl, _, hg, _⟩
  · cases hb
  · cases hb; exact (Array.getElem?_eq_some_iff.1 hg).1
theorem own_below {w w' : World} {base : Nat} {e : TypeId} {size : Nat} {v : Value} {n : Nat} {xs : List Value} (h : w.ownsRow base e size v n xs) (hb : Below w.heap.size w w') : w'.ownsRow base e size v n xs :=
  own_keeps h (Keeps.below hb) fun b hv hf => by have := own_low h b hv; omega
section
variable {g : Nat → Own} {D : Nat → Prop} {p mb : Nat} {ib nb : Int → Nat} {T : TrM}
set_option maxRecDepth 100000 in
set_option maxHeartbeats 8000000 in
theorem live_any (now : Int) (w : World) (h : TreeAt g D w p mb ib nb T) (hT : OkM T) : Calls Try.prog 7 #[ptr p, .int .u64 now] w (NewInts w (liveM T now)) := by
  obtain ⟨ti, hi, hz0, hz1, hz2⟩ := info_parts infoInt
  have hlen := hT.len
  have HH := Lib.hid h
  have HT := Lib.hid hT
  have HIDS := Lib.hid (ids_any w h (by omega))
  clear h hT
  go_enter Try.func7, Try.ntmps7
  go_wp2_with fail
  (with_reducible refine HIDS.out.mono ?_)
  rintro e w1 ⟨a, cap, rfl, hcap, hr, hB⟩
  have hil : (idsM T).length = T.length := by unfold idsM; rw [List.length_map]
  obtain ⟨n, hn⟩ : ∃ n, n = (idsM T).length := ⟨_, rfl⟩
  rw [← hn] at hcap hr ⊢
  have hn64 : n ≤ 64 := by omega
  have HNL : Hid (n = T.length) := by have : n = T.length := by omega
                                      exact this
  have HR := Lib.hid hr
  have HB := Lib.hid hB
  have hs1 := hB.size
  clear hn hr hB hil HIDS
  go_wp2_with fail
  go_loopw [5, 16] (fun v i wr => ∃ k : Nat, k ≤ n ∧ i = .int .i64 k ∧ wr.ownsRow w1.heap.size 3 1 v (liveM (T.take k) now).length ((liveM (T.take k) now).map (Value.int .i64)) ∧ Below w1.heap.size w1 wr) (fun _ i _ => n - (intOf i).toNat)
  case atStart => exact ⟨0, by omega, rfl, ⟨rfl, .inl ⟨rfl, rfl⟩⟩, Below.refl _ _⟩
  case round =>
    obtain ⟨k, hk, rfl, hO, hb⟩ := hrel
    have hbs := hb.size
    by_cases hlt : k < n
    · obtain ⟨q, hq⟩ : ∃ q, T[k]? = some q := ⟨_, List.getElem?_eq_getElem (by have := HNL.out; omega)⟩
      obtain ⟨j, x⟩ := q
      obtain ⟨bb, off, rfl, _, hbw, hcells⟩ := HR.out.at_ (by omega)
      have hc0 : w1.cell? ⟨bb, off + k, none⟩ = some (.int .i64 j) := by
        rw [hcells k hlt, List.getElem?_map]
        unfold idsM
        rw [List.getElem?_map, hq]
        rfl
      have hc1 : wr.cell? ⟨bb, off + k, none⟩ = some (.int .i64 j) := (hb.cell (p := ⟨bb, off + k, none⟩) hbw).trans hc0
      have hx : aget j T = some x := aget_of_mem iltLaws HT.out.sorted (List.mem_of_getElem? hq)
      have hids := HT.out.ids j x hx
      have hBr := HB.out.trans (hb.mono hs1)
      have hnode := node_any j wr (HH.out.below hBr (Nat.le_refl _)) (okInt hids.1 (by omega))
      have hnm : nodeM T j = .agg #[.int .i64 j, .int .i64 x.kind, .int .i64 x.links, .int .i64 x.b.length, .int .u64 x.til, .bool x.closed] := by unfold nodeM; rw [hx]; rfl
      rw [hnm, hx] at hnode
      have HN := Lib.hid hnode
      have HTK := Lib.hid (liveM_take (now := now) hq)
      have HLE := Lib.hid (liveM_len T now k)
      have HO := Lib.hid hO
      have HBL := Lib.hid hb
      clear hnode hnm hx hcells hc0 hO hb hids hq
      obtain ⟨a5, c5, rfl, hac5⟩ := own_form HO.out
      by_cases hl : livesB x now = true
      · have HL := Lib.hid hl
        simp only [livesB, Bool.and_eq_true, decide_eq_true_eq] at hl
        obtain ⟨⟨hk1, hcl⟩, htl⟩ := hl
        have hdue : dueB now x.til = false := by unfold dueB; simp; omega
        have HD := Lib.hid hdue
        rw [hcl, hk1] at HN
        clear hk1 hcl htl hdue
        go_wp2_with fail
        (with_reducible refine HN.out.mono ?_)
        rintro e w3 ⟨rfl, hb3⟩
        have hs3 := hb3.size
        have hb4 : Below wr.heap.size wr (w3.alloc (.cells #[.int .i64 j, .int .i64 1, .int .i64 x.links, .int .i64 x.b.length, .int .u64 x.til, .bool true] 26)) := hb3.trans ((wall _ _).mono hs3)
        have hb5 : Below wr.heap.size wr ((w3.alloc (.cells #[.int .i64 j, .int .i64 1, .int .i64 x.links, .int .i64 x.b.length, .int .u64 x.til, .bool true] 26)).alloc (.cells #[.int .i64 j] 3)) := hb4.trans ((wall _ _).mono hb4.size)
        have HO5 := Lib.hid (own_below HO.out hb5)
        have HROW := Lib.hid (one_row (w := w3.alloc (.cells #[.int .i64 j, .int .i64 1, .int .i64 x.links, .int .i64 x.b.length, .int .u64 x.til, .bool true] 26)) (.int .i64 j) 3)
        rw [World.size_alloc] at HROW
        have HB5 := Lib.hid hb5
        have hz5 := hb5.size
        have hle := HLE.out
        clear hb3 hb4 hb5
        go_wp2_with (first | (go_at_call 19; refine (due_any _ _ _).mono ?_; rintro e w4 ⟨rfl, rfl⟩; rw [HD.out]) | (at_builtin; refine wpList_append_row (by rfl) _ _ 27 (by rfl) w1.heap.size 3 ti (.int .i64 0) 8 Try.underlying27 hi hz0 hz1 hz2 rfl _ _ _ (by rfl) HO5.out (some ⟨w3.heap.size + 1, 0, none⟩) 1 1 [.int .i64 j] (by rfl) HROW.out (one_ints [j]) (by unfold maxLen; omega) (by omega) (by omega) ?_; intro A' c' w6 hown6 hgrow6 _ _))
        have HO6 := Lib.hid hown6
        have HG6 := Lib.hid hgrow6
        clear hown6 hgrow6
        go_roundw
        case rel =>
          refine ⟨k + 1, by omega, by go_num, ?_, ?_⟩
          · rw [HTK.out, HL.out, if_pos rfl, List.map_append, List.length_append]
            exact HO6.out
          · exact (HBL.out.trans (HB5.out.mono hbs)).grown HG6.out (by omega) (own_block_ge HO5.out)
        case measure => simp [intOf]; omega
      · have HL := Lib.hid hl
        have hrel0 : liveM (T.take (k + 1)) now = liveM (T.take k) now := by rw [HTK.out, if_neg hl, List.append_nil]
        have HR0 := Lib.hid hrel0
        have hfin : ∀ w3, Below wr.heap.size wr w3 → w3.ownsRow w1.heap.size 3 1 (.slice a5 (liveM (T.take k) now).length c5) (liveM (T.take (k + 1)) now).length ((liveM (T.take (k + 1)) now).map (Value.int .i64)) ∧ Below w1.heap.size w1 w3 := fun w3 hb => by
          rw [HR0.out]
          exact ⟨own_below HO.out hb, HBL.out.trans (hb.mono hbs)⟩
        have HFIN := Lib.hid hfin
        clear hrel0 hfin
        by_cases hk1 : x.kind = 1
        · cases hcl : x.closed with
          | true =>
            have hdue : dueB now x.til = true := by
              by_cases htl : now < x.til
              · exact absurd (by simp [livesB, hk1, hcl, htl]) hl
              · unfold dueB; simp; omega
            have HD := Lib.hid hdue
            rw [hcl, hk1] at HN
            clear hk1 hcl hdue hl
            go_wp2_with fail
            (with_reducible refine HN.out.mono ?_)
            rintro e w3 ⟨rfl, hb3⟩
            have HB3 := Lib.hid hb3
            clear hb3
            go_wp2_with (go_at_call 19; refine (due_any _ _ _).mono ?_; rintro e w4 ⟨rfl, rfl⟩; rw [HD.out])
            go_roundw
            case rel =>
              obtain ⟨e1, e2⟩ := HFIN.out _ (HB3.out.trans ((wall _ _).mono HB3.out.size))
              exact ⟨k + 1, by omega, by go_num, e1, e2⟩
            case measure => simp [intOf]; omega
          | false =>
            rw [hcl, hk1] at HN
            clear hk1 hcl hl
            go_wp2_with fail
            (with_reducible refine HN.out.mono ?_)
            rintro e w3 ⟨rfl, hb3⟩
            have HB3 := Lib.hid hb3
            clear hb3
            go_wp2_with fail
            go_roundw
            case rel =>
              obtain ⟨e1, e2⟩ := HFIN.out _ (HB3.out.trans ((wall _ _).mono HB3.out.size))
              exact ⟨k + 1, by omega, by go_num, e1, e2⟩
            case measure => simp [intOf]; omega
        · have e1 : (x.kind == 1) = false := by simpa using hk1
          clear hk1 hl
          go_wp2_with fail
          (with_reducible refine HN.out.mono ?_)
          rintro e w3 ⟨rfl, hb3⟩
          have HB3 := Lib.hid hb3
          clear hb3
          go_wp2_with fail
          go_roundw
          case rel =>
            obtain ⟨e1, e2⟩ := HFIN.out _ (HB3.out.trans ((wall _ _).mono HB3.out.size))
            exact ⟨k + 1, by omega, by go_num, e1, e2⟩
          case measure => simp [intOf]; omega
    · obtain rfl : n = k := by omega
      rw [List.take_of_length_le (by rw [HNL.out]; exact Nat.le_refl _)] at hO
      obtain ⟨a2, c2, rfl, hac⟩ := own_form hO
      have HO := Lib.hid hO
      have HBL := Lib.hid hb
      clear hO hb
      go_wp2
      go_ret
      exact ⟨a2, c2, rfl, hac, (RowAt.of_own HO.out).2.mono (fun b hb => ⟨by omega, hb.2⟩), HB.out.trans (HBL.out.mono hs1)⟩
theorem bound_any (now : Int) (w : World) (h : TreeAt g D w p mb ib nb T) (hT : OkM T) : Calls Try.prog 8 #[ptr p, .int .u64 now] w fun e w' => e = .returned (.bool (decide (0 < (liveM T now).length))) ∧ Below w.heap.size w w' := by
  have HL := Lib.hid (live_any now w h hT)
  clear h hT
  obtain ⟨zs, hzs⟩ : ∃ zs, zs = liveM T now := ⟨_, rfl⟩
  rw [← hzs] at HL ⊢
  clear hzs
  go_enter Try.func8, Try.ntmps8
  go_wp2_with fail
  (with_reducible refine HL.out.mono ?_)
  rintro e w1 ⟨a, cap, rfl, hcap, hr, hB⟩
  have HB := Lib.hid hB
  clear hr hB
  go_wp2_with fail
  go_ret
  exact ⟨ret_bool (by simp), HB.out⟩
end
section
variable {W w : World} {P : Nat → Prop} {p : Nat} {T : TrM}
theorem in_live (h : TreeIn W P w p T) (now : Int) : Calls Try.prog 7 #[ptr p, .int .u64 now] w (NewInts w (liveM T now)) := by
  obtain ⟨g, D, mb, ib, nb, hA, hF⟩ := h.at_
  exact live_any now w hA h.ok
theorem in_bound (h : TreeIn W P w p T) (now : Int) : Calls Try.prog 8 #[ptr p, .int .u64 now] w fun e w' => e = .returned (.bool (decide (0 < (liveM T now).length))) ∧ Below w.heap.size w w' := by
  obtain ⟨g, D, mb, ib, nb, hA, hF⟩ := h.at_
  exact bound_any now w hA h.ok
end
end Go.Proofs.Ytcmlfaolooglfaa
