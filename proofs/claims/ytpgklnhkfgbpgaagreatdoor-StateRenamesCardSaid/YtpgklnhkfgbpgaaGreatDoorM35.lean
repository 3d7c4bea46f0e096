/- worm.Live, worm.Bound of a tree. package snap: All. package snap: Forget. -/
import Derived.Test.YtpgklnhkfgbpgaaGreatDoorM15
import Derived.Test.YtpgklnhkfgbpgaaGreatDoorM34
import Derived.Test.YtpgklnhkfgbpgaaGreatDoorM11
import Derived.Test.YtpgklnhkfgbpgaaGreatDoorM25
import Derived.Test.YtpgklnhkfgbpgaaGreatDoorM29
namespace Go.Proofs.YtpgklnhkfgbpgaaGreatDoor
open Go.ChangeShapes Go.WideShapes Go.ChangeAt Go.RowKit
set_option linter.unusedVariables false
set_option linter.unusedSimpArgs false

theorem infoInt : (Tryz.prog.info? 3).map (fun i => (i.zero, i.size, i.bytes)) = some (some (.int .i64 0), 1, 8) := by kernel_rfl
def livesB (x : ItM) (now : Int) : Bool := decide (x.kind = 1) && x.closed && decide (now < x.til)
def liveM (T : TrM) (now : Int) : List Int := (T.filter fun q => livesB q.2 now).map (·.1)
theorem liveM_take {T : TrM} {now : Int} {k : Nat} {q : Int × ItM} (h : T[k]? = some q) : liveM (T.take (k + 1)) now = liveM (T.take k) now ++ if livesB q.2 now then [q.1] else [] := by
  obtain ⟨hk, e⟩ := List.getElem?_eq_some_iff.1 h
  unfold liveM
  rw [List.take_succ_eq_append_getElem hk, e, List.filter_append, List.map_append]
  congr 1
  by_cases hl : livesB q.2 now <;> simp [hl]
theorem liveM_len (T : TrM) (now : Int) (k : Nat) : (liveM (T.take k) now).length ≤ k := by
  unfold liveM
  rw [List.length_map]
  refine Nat.le_trans (List.length_filter_le _ _) ?_
  rw [List.length_take]; omega
theorem one_ints (zs : List Int) : ∀ u ∈ zs.map (Value.int .i64), u.oneCell' = true := by
  intro u hu; obtain ⟨x, _, rfl⟩ := List.mem_map.1 hu; rfl
theorem own_keeps {w w' : World} {base : Nat} {e : TypeId} {size : Nat} {v : Value} {n : Nat} {xs : List Value} {fp : Nat → Prop} (h : w.ownsRow base e size v n xs) (hK : Keeps fp w w') (hn : ∀ b, v.ownBlock = some b → ¬ fp b) : w'.ownsRow base e size v n xs := by
  refine ⟨h.1, ?_⟩
  rcases h.2 with h0 | ⟨g, cap, cur, rfl, hb, hg, r⟩
  · exact .inl h0
  · exact .inr ⟨g, cap, cur, rfl, hb, (hK.block g (Array.getElem?_eq_some_iff.1 hg).1 (hn g rfl)).trans hg, r⟩
theorem own_low {w : World} {base : Nat} {e : TypeId} {size : Nat} {v : Value} {n : Nat} {xs : List Value} (h : w.ownsRow base e size v n xs) : ∀ b, v.ownBlock = some b → b < w.heap.size := by
  intro b hb
  rcases h.2 with ⟨rfl, _⟩ | ⟨g, cap, cur, rfl, _, hg, _⟩
  · cases hb
  · cases hb; exact (Array.getElem?_eq_some_iff.1 hg).1
theorem own_below {w w' : World} {base : Nat} {e : TypeId} {size : Nat} {v : Value} {n : Nat} {xs : List Value} (h : w.ownsRow base e size v n xs) (hb : Below w.heap.size w w') : w'.ownsRow base e size v n xs :=
  own_keeps h (Keeps.below hb) fun b hv hf => by have := own_low h b hv; omega
section
variable {g : Nat → Own} {D : Nat → Prop} {p mb : Nat} {ib nb : Int → Nat} {T : TrM}
set_option maxRecDepth 100000 in
set_option maxHeartbeats 8000000 in
theorem live_any (now : Int) (w : World) (h : TreeAt g D w p mb ib nb T) (hT : OkM T) : Calls Tryz.prog 130 #[ptr p, .int .u64 now] w (NewInts w (liveM T now)) := by
  obtain ⟨ti, hi, hz0, hz1, hz2⟩ := info_parts infoInt
  have hlen := hT.len
  have HH := Lib.hid h
  have HT := Lib.hid hT
  have HIDS := Lib.hid (ids_any w h (by omega))
  clear h hT
  go_enter Tryz.func130, Tryz.ntmps130
  go_wp2_with fail
  (with_reducible refine HIDS.out.mono ?_)
  rintro e w1 ⟨a, cap, rfl, hcap, hr, hB⟩
  have hil : (idsM T).length = T.length := by unfold idsM; rw [List.length_map]
  obtain ⟨n, hn⟩ : ∃ n, n = (idsM T).length := ⟨_, rfl⟩
  rw [← hn] at hcap hr ⊢
  have hn64 : n ≤ 64 := by omega
  have HNL : Hid (n = T.length) := by have : n = T.length := by omega
                                      exact this
  have HR := Lib.hid hr
  have HB := Lib.hid hB
  have hs1 := hB.size
  clear hn hr hB hil HIDS
  go_wp2_with fail
  go_loopw [5, 16] (fun v i wr => ∃ k : Nat, k ≤ n ∧ i = .int .i64 k ∧ wr.ownsRow w1.heap.size 3 1 v (liveM (T.take k) now).length ((liveM (T.take k) now).map (Value.int .i64)) ∧ Below w1.heap.size w1 wr) (fun _ i _ => n - (intOf i).toNat)
  case atStart => exact ⟨0, by omega, rfl, ⟨rfl, .inl ⟨rfl, rfl⟩⟩, Below.refl _ _⟩
  case round =>
    obtain ⟨k, hk, rfl, hO, hb⟩ := hrel
    have hbs := hb.size
    by_cases hlt : k < n
    · obtain ⟨q, hq⟩ : ∃ q, T[k]? = some q := ⟨_, List.getElem?_eq_getElem (by have := HNL.out; omega)⟩
      obtain ⟨j, x⟩ := q
      obtain ⟨bb, off, rfl, _, hbw, hcells⟩ := HR.out.at_ (by omega)
      have hc0 : w1.cell? ⟨bb, off + k, none⟩ = some (.int .i64 j) := by
        rw [hcells k hlt, List.getElem?_map]
        unfold idsM
        rw [List.getElem?_map, hq]
        rfl
      have hc1 : wr.cell? ⟨bb, off + k, none⟩ = some (.int .i64 j) := (hb.cell (p := ⟨bb, off + k, none⟩) hbw).trans hc0
      have hx : aget j T = some x := aget_of_mem iltLaws HT.out.sorted (List.mem_of_getElem? hq)
      have hids := HT.out.ids j x hx
      have hBr := HB.out.trans (hb.mono hs1)
      have hnode := node_any j wr (HH.out.below hBr (Nat.le_refl _)) (okInt hids.1 (by omega))
      have hnm : nodeM T j = .agg #[.int .i64 j, .int .i64 x.kind, .int .i64 x.links, .int .i64 x.b.length, .int .u64 x.til, .bool x.closed] := by unfold nodeM; rw [hx]; rfl
      rw [hnm, hx] at hnode
      have HN := Lib.hid hnode
      have HTK := Lib.hid (liveM_take (now := now) hq)
      have HLE := Lib.hid (liveM_len T now k)
      have HO := Lib.hid hO
      have HBL := Lib.hid hb
      clear hnode hnm hx hcells hc0 hO hb hids hq
      obtain ⟨a5, c5, rfl, hac5⟩ := own_form HO.out
      by_cases hl : livesB x now = true
      · have HL := Lib.hid hl
        simp only [livesB, Bool.and_eq_true, decide_eq_true_eq] at hl
        obtain ⟨⟨hk1, hcl⟩, htl⟩ := hl
        have hdue : dueB now x.til = false := by unfold dueB; simp; omega
        have HD := Lib.hid hdue
        rw [hcl, hk1] at HN
        clear hk1 hcl htl hdue
        go_wp2_with fail
        (with_reducible refine HN.out.mono ?_)
        rintro e w3 ⟨rfl, hb3⟩
        have hs3 := hb3.size
        have hb4 : Below wr.heap.size wr (w3.alloc (.cells #[.int .i64 j, .int .i64 1, .int .i64 x.links, .int .i64 x.b.length, .int .u64 x.til, .bool true] 31)) := hb3.trans ((wall _ _).mono hs3)
        have hb5 : Below wr.heap.size wr ((w3.alloc (.cells #[.int .i64 j, .int .i64 1, .int .i64 x.links, .int .i64 x.b.length, .int .u64 x.til, .bool true] 31)).alloc (.cells #[.int .i64 j] 3)) := hb4.trans ((wall _ _).mono hb4.size)
        have HO5 := Lib.hid (own_below HO.out hb5)
        have HROW := Lib.hid (one_row (w := w3.alloc (.cells #[.int .i64 j, .int .i64 1, .int .i64 x.links, .int .i64 x.b.length, .int .u64 x.til, .bool true] 31)) (.int .i64 j) 3)
        rw [World.size_alloc] at HROW
        have HB5 := Lib.hid hb5
        have hz5 := hb5.size
        have hle := HLE.out
        clear hb3 hb4 hb5
        go_wp2_with (first | (go_at_call 126; refine (due_any _ _ _).mono ?_; rintro e w4 ⟨rfl, rfl⟩; rw [HD.out]) | (at_builtin; refine wpList_append_row (by rfl) _ _ 46 (by rfl) w1.heap.size 3 ti (.int .i64 0) 8 Tryz.underlying46 hi hz0 hz1 hz2 rfl _ _ _ (by rfl) HO5.out (some ⟨w3.heap.size + 1, 0, none⟩) 1 1 [.int .i64 j] (by rfl) HROW.out (one_ints [j]) (by unfold maxLen; omega) (by omega) (by omega) ?_; intro A' c' w6 hown6 hgrow6 _ _))
        have HO6 := Lib.hid hown6
        have HG6 := Lib.hid hgrow6
        clear hown6 hgrow6
        go_roundw
        case rel =>
          refine ⟨k + 1, by omega, by go_num, ?_, ?_⟩
          · rw [HTK.out, HL.out, if_pos rfl, List.map_append, List.length_append]
            exact HO6.out
          · exact (HBL.out.trans (HB5.out.mono hbs)).grown HG6.out (by omega) (own_block_ge HO5.out)
        case measure => simp [intOf]; omega
      · have HL := Lib.hid hl
        have hrel0 : liveM (T.take (k + 1)) now = liveM (T.take k) now := by rw [HTK.out, if_neg hl, List.append_nil]
        have HR0 := Lib.hid hrel0
        have hfin : ∀ w3, Below wr.heap.size wr w3 → w3.ownsRow w1.heap.size 3 1 (.slice a5 (liveM (T.take k) now).length c5) (liveM (T.take (k + 1)) now).length ((liveM (T.take (k + 1)) now).map (Value.int .i64)) ∧ Below w1.heap.size w1 w3 := fun w3 hb => by
          rw [HR0.out]
          exact ⟨own_below HO.out hb, HBL.out.trans (hb.mono hbs)⟩
        have HFIN := Lib.hid hfin
        clear hrel0 hfin
        by_cases hk1 : x.kind = 1
        · cases hcl : x.closed with
          | true =>
            have hdue : dueB now x.til = true := by
              by_cases htl : now < x.til
              · exact absurd (by simp [livesB, hk1, hcl, htl]) hl
              · unfold dueB; simp; omega
            have HD := Lib.hid hdue
            rw [hcl, hk1] at HN
            clear hk1 hcl hdue hl
            go_wp2_with fail
            (with_reducible refine HN.out.mono ?_)
            rintro e w3 ⟨rfl, hb3⟩
            have HB3 := Lib.hid hb3
            clear hb3
            go_wp2_with (go_at_call 126; refine (due_any _ _ _).mono ?_; rintro e w4 ⟨rfl, rfl⟩; rw [HD.out])
            go_roundw
            case rel =>
              obtain ⟨e1, e2⟩ := HFIN.out _ (HB3.out.trans ((wall _ _).mono HB3.out.size))
              exact ⟨k + 1, by omega, by go_num, e1, e2⟩
            case measure => simp [intOf]; omega
          | false =>
            rw [hcl, hk1] at HN
            clear hk1 hcl hl
            go_wp2_with fail
            (with_reducible refine HN.out.mono ?_)
            rintro e w3 ⟨rfl, hb3⟩
            have HB3 := Lib.hid hb3
            clear hb3
            go_wp2_with fail
            go_roundw
            case rel =>
              obtain ⟨e1, e2⟩ := HFIN.out _ (HB3.out.trans ((wall _ _).mono HB3.out.size))
              exact ⟨k + 1, by omega, by go_num, e1, e2⟩
            case measure => simp [intOf]; omega
        · have e1 : (x.kind == 1) = false := by simpa using hk1
          clear hk1 hl
          go_wp2_with fail
          (with_reducible refine HN.out.mono ?_)
          rintro e w3 ⟨rfl, hb3⟩
          have HB3 := Lib.hid hb3
          clear hb3
          go_wp2_with fail
          go_roundw
          case rel =>
            obtain ⟨e1, e2⟩ := HFIN.out _ (HB3.out.trans ((wall _ _).mono HB3.out.size))
            exact ⟨k + 1, by omega, by go_num, e1, e2⟩
          case measure => simp [intOf]; omega
    · obtain rfl : n = k := by omega
      rw [List.take_of_length_le (by rw [HNL.out]; exact Nat.le_refl _)] at hO
      obtain ⟨a2, c2, rfl, hac⟩ := own_form hO
      have HO := Lib.hid hO
      have HBL := Lib.hid hb
      clear hO hb
      go_wp2
      go_ret
      exact ⟨a2, c2, rfl, hac, (RowAt.of_own HO.out).2.mono (fun b hb => ⟨by omega, hb.2⟩), HB.out.trans (HBL.out.mono hs1)⟩
theorem bound_any (now : Int) (w : World) (h : TreeAt g D w p mb ib nb T) (hT : OkM T) : Calls Tryz.prog 96 #[ptr p, .int .u64 now] w fun e w' => e = .returned (.bool (decide (0 < (liveM T now).length))) ∧ Below w.heap.size w w' := by
  have HL := Lib.hid (live_any now w h hT)
  clear h hT
  obtain ⟨zs, hzs⟩ : ∃ zs, zs = liveM T now := ⟨_, rfl⟩
  rw [← hzs] at HL ⊢
  clear hzs
  go_enter Tryz.func96, Tryz.ntmps96
  go_wp2_with fail
  (with_reducible refine HL.out.mono ?_)
  rintro e w1 ⟨a, cap, rfl, hcap, hr, hB⟩
  have HB := Lib.hid hB
  clear hr hB
  go_wp2_with fail
  go_ret
  exact ⟨ret_bool (by simp), HB.out⟩
end
section
variable {W w : World} {P : Nat → Prop} {p : Nat} {T : TrM}
end
end Go.Proofs.YtpgklnhkfgbpgaaGreatDoor
namespace Go.Proofs.YtpgklnhkfgbpgaaGreatDoor
open Go.ChangeShapes Go.WideShapes Go.ChangeAt Go.RowKit
set_option linter.unusedVariables false
set_option linter.unusedSimpArgs false

section
variable {w : World} {o : Mark} {i s : Nat} {S : SnM}
end
end Go.Proofs.YtpgklnhkfgbpgaaGreatDoor
namespace Go.Proofs.YtpgklnhkfgbpgaaGreatDoor
open Go.ChangeShapes Go.WideShapes Go.ChangeAt Go.RowKit
set_option linter.unusedVariables false
set_option linter.unusedSimpArgs false

def boundM (T : TrM) (now : Int) : Bool := decide (0 < (liveM T now).length)
def cutM (S : SnM) (k : Nat) : SnM := ⟨S.l.take k ++ S.l.drop (k + 1), S.next, S.last⟩
def ForgetR (S : SnM) (id now er : Int) (S' : SnM) : Prop :=
  (er = 29 ∧ S' = S ∧ ∀ x ∈ S.l, x.id ≠ id) ∨ ∃ (k : Nat) (x : OneM), S.l[k]? = some x ∧ x.id = id ∧ (∀ x' ∈ S.l.take k, x'.id ≠ id) ∧ ((boundM x.t now = true ∧ er = 28 ∧ S' = S) ∨ (boundM x.t now = false ∧ er = 0 ∧ S' = cutM S k))
/-- The rows that 'X[:k]' and 'X[k+1:]' read. -/
theorem cut_rowsO {F : Nat → Prop} {w w1 : World} {b off n c k s : Nat} {vs : List Value} (h : RowAt F w (some ⟨b, off, none⟩) (n * s) vs) (hk : k < n) (hb : Below w.heap.size w w1) :
    RowAt F w1 (some ⟨b, off, none⟩) (k * s) (vs.take (k * s)) ∧ RowAt F w1 (if c = k + 1 then some ⟨b, off, none⟩ else some ⟨b, off + (k + 1) * s, none⟩) ((n - (k + 1)) * s) (vs.drop ((k + 1) * s)) ∨ c < n := by
  by_cases hcn : c < n
  · exact .inr hcn
  · left
    have h1 := h.below hb (Nat.le_refl _)
    have h2 := h1.take (k * s)
    have hks : k * s ≤ n * s := Nat.mul_le_mul_right s (by omega)
    rw [Nat.min_eq_right hks] at h2
    have h4 := h1.drop ((k + 1) * s)
    rw [← Nat.sub_mul] at h4
    refine ⟨h2, ?_⟩
    by_cases hce : c = k + 1
    · rw [if_pos hce]
      have hl := h.length
      have hkn : k + 1 = n := by omega
      exact RowAt.zero _ _ _ (by rw [show n - (k + 1) = 0 by omega, Nat.zero_mul]) (by rw [hkn]; exact List.drop_of_length_le (by omega))
    · rw [if_neg hce]; exact h4
theorem OneAt.one {o : Mark} {w : World} {vs : List Value} {x : OneM} (h : OneAt o w vs x) : ∀ u ∈ vs, u.oneCell' = true := by
  obtain ⟨a, c, q, h1, _⟩ := h
  intro u hu
  rw [h1] at hu
  simp only [List.mem_cons, List.not_mem_nil, or_false] at hu
  rcases hu with rfl | rfl | rfl <;> rfl
theorem OnesAt.one {o : Mark} {w : World} : ∀ {vs : List Value} {l : List OneM}, OnesAt o w vs l → ∀ u ∈ vs, u.oneCell' = true
  | _, [], h => by have h1 : _ = [] := h; rw [h1]; intro u hu; cases hu
  | _, x :: r, ⟨v1, v2, h1, h2, h3⟩ => by
    intro u hu
    rw [h1] at hu
    rcases List.mem_append.1 hu with hu | hu
    · exact h2.one u hu
    · exact OnesAt.one h3 u hu
theorem two_cells (w : World) (x y : Value) (t : TypeId) : (w.alloc (.cells #[x, y] t)).drew.cell? ⟨w.heap.size, 0, none⟩ = some x ∧ (w.alloc (.cells #[x, y] t)).drew.cell? ⟨w.heap.size, 1, none⟩ = some y ∧ w.heap.size < (w.alloc (.cells #[x, y] t)).drew.heap.size := by
  have h := (MapKept.heap_alloc w (.cells #[x, y] t)).1
  have h2 : (w.alloc (.cells #[x, y] t)).drew.heap[w.heap.size]? = some (.cells #[x, y] t (0, 0)) := h
  refine ⟨?_, ?_, ?_⟩
  · unfold World.cell?; simp only [h2]; rfl
  · unfold World.cell?; simp only [h2]; rfl
  · exact (Array.getElem?_eq_some_iff.1 h2).1
section
variable {W w : World} {o : Mark} {i s : Nat} {S : SnM}
theorem forget_end {w8 : World} {v v8 : Value} {vals : List Value} {k B lc : Nat} {la : Option Addr} (hM : Marks W o w) (hi : i ≠ 0) (hh : w.heap[s]? = some (.cells #[v, .int .i64 S.next, .slice la S.last.length lc] 104 (0, 0)))
    (hos : o s = i) (hsw : s < w.heap.size) (hO : OnesAt o w vals S.l) (hlc : S.last.length ≤ lc) (hlr : RowAt (fun b => o b = 0 ∧ b < w.heap.size) w la S.last.length (S.last.map bv)) (hb : Below w.heap.size w w8)
    (hown : w8.ownsRow B 108 3 v8 (S.l.take k ++ S.l.drop (k + 1)).length (vals.take (k * 3) ++ vals.drop ((k + 1) * 3))) (hB : w.heap.size ≤ B) :
    ∃ o', Step o (fun j => j = i) w o' (w8.setCell ⟨s, 0, none⟩ v8) ∧ SnapsO o' i (w8.setCell ⟨s, 0, none⟩ v8) s (cutM S k) := by
  obtain ⟨o', hs, h1, h2⟩ := mark_new hM i (fun b => v8.ownBlock = some b) (w' := w8) (fun b hb' => ⟨by have := own_block_ge hown b hb'; omega, own_lt hown b hb'⟩) hb
  have hi0 : ¬ (fun j => j = i) 0 := fun e => hi e.symm
  have hs8 : w8.heap[s]? = _ := (hb.block s hsw).trans hh
  have hz := size_set w8 ⟨s, 0, none⟩ v8
  have hst : Step o (fun j => j = i) w o' (w8.setCell ⟨s, 0, none⟩ v8) := by
    refine hs.trans ⟨fun _ _ => rfl, fun b hb' hn => ?_, (Keeps.set_ w8 ⟨s, 0, none⟩ v8).mono fun x _ hx => by
      have hx : x = s := hx
      rw [hx]; exact (hs.old s hsw).trans hos⟩
    have := (hs.new b (Nat.le_trans hb.size hb') hn).2
    omega
  have hst2 : Step o (fun j => j = i) w o' w8 := hs
  refine ⟨o', hst, ⟨v8, la, lc, _, heap_set_same hs8, (hst.old s hsw).trans hos, by have := hb.size; omega, ?_, fun b hb' => ?_, OnesAt.append ((hO.take k).step hi0 hst) ((hO.drop (k + 1)).step hi0 hst), hlc, ?_⟩⟩
  · exact own_base (own_keep hown fun b hb' _ => heap_set_other _ _ _ _ (by have := own_block_ge hown b hb'; simp only; omega)) (Nat.zero_le _)
  · exact ⟨h1 b hb', by have := own_block_ge hown b hb'; omega, by have := own_lt hown b hb'; omega⟩
  · exact hlr.move hst.keep.size fun b hb' _ => ⟨⟨(hst.old b hb'.2).trans hb'.1, Nat.lt_of_lt_of_le hb'.2 hst.keep.size⟩, hst.block hb'.2 (by rw [hb'.1]; exact hi0)⟩
set_option maxRecDepth 100000 in
set_option maxHeartbeats 8000000 in
theorem forget_any (hS : SnapsO o i w s S) (hM : Marks W o w) (hi : i ≠ 0) (hl8 : S.l.length ≤ 8) (id now : Int) :
    Calls Tryz.prog 49 #[ptr s, .int .i64 id, .int .u64 now] w fun e w' => ∃ er S' o', e = .returned (.int .i64 er) ∧ ForgetR S id now er S' ∧ Step o (fun k => k = i) w o' w' ∧ SnapsO o' i w' s S' := by
  have HS := Lib.hid hS
  have HM := Lib.hid hM
  obtain ⟨v, la, lc, vals, h1, h2, h3, h4, h5, h6, h7, h8⟩ := hS.at_
  obtain ⟨a, c, rfl, hcap⟩ := own_form h4
  obtain ⟨-, -, hrow⟩ := RowAt.of_rown h4 (by unfold maxLen; omega)
  have HF := Lib.hid (find_any hS id (by omega))
  have HH := Lib.hid h1
  have HON := Lib.hid h6
  have HLR := Lib.hid h8
  have HLC := Lib.hid h7
  have HOS := Lib.hid h2
  have HROW := Lib.hid hrow
  obtain ⟨n, hn⟩ : ∃ n, n = S.l.length := ⟨_, rfl⟩
  have HN := Lib.hid hn
  rw [← hn] at hcap hl8
  clear hS hM h1 h2 h4 h5 h6 h7 h8 hrow hn
  go_enter Tryz.func49, Tryz.ntmps49
  go_wp2_with fail
  (with_reducible refine HF.out.mono ?_)
  rintro e w1 ⟨v, rfl, hf, hb1⟩
  have HB1 := Lib.hid hb1
  clear hb1
  rcases hf with ⟨rfl, hno⟩ | ⟨k, x, rfl, hx, hid, hno⟩
  · have HNO := Lib.hid hno
    clear hno
    go_wp2_with fail
    go_ret
    exact ⟨29, S, o, rfl, .inl ⟨rfl, rfl, HNO.out⟩, Step.grow HM.out HB1.out, HS.out.grow HM.out HB1.out⟩
  · have hkn : k < n := by rw [HN.out]; exact (List.getElem?_eq_some_iff.1 hx).1
    have HRW := HROW.out
    rw [← HN.out] at HRW
    obtain ⟨g, off, rfl, hgw, _, hcell⟩ := HRW.at_ (by omega)
    have HRX := Lib.hid HRW
    obtain ⟨ha, hcp, q, e0, e1, e2, e3, e4, e5, e6⟩ := HON.out.at_ hx
    have d2 : w1.cell? ⟨g, off + k * 3 + 2, none⟩ = some (ptr q) := (HB1.out.cell (p := ⟨g, off + k * 3 + 2, none⟩) hgw.2).trans ((hcell (k * 3 + 2) (by omega)).trans e2)
    have hbS := HB1.out.block s h3
    have c0 : w1.cell? ⟨s, 0, none⟩ = some (.slice (some ⟨g, off, none⟩) n c) := by
      have := hbS.trans HH.out
      rw [HN.out]
      simp [World.cell?, this]
    obtain ⟨gg, D, mb, ib, nb, hA, hg9, hD9⟩ := e5.grow HB1.out
    have HBD := Lib.hid (bound_any now w1 hA e6)
    have HFX := Lib.hid (And.intro hx (And.intro hid hno))
    have hneg : ¬ ((k : Int) < 0) := by omega
    have i0 : (0 : Int) ≤ k := by omega
    have i1 : (k : Int) < n := by omega
    have i1' : (k : Int) ≤ c := by omega
    have i2 : (k : Int) + 1 ≤ n := by omega
    have i3 : (0 : Int) ≤ (k : Int) + 1 := by omega
    have i4 : (n : Int) ≤ c := by omega
    have ew : IntKind.i64.wrap ((k : Int) + 1) = (k : Int) + 1 := IntWalk.i64_in _ (by omega)
    clear hx hid hno hcell e0 e1 e2 e3 e4 e5 e6 hA hg9 hD9 HRW hbS
    obtain ⟨bd, hbd⟩ : ∃ bd, bd = decide (0 < (liveM x.t now).length) := ⟨_, rfl⟩
    rw [← hbd] at HBD
    have HBE := Lib.hid hbd
    clear hbd
    cases bd with
    | true =>
      go_wp2_with fail
      (with_reducible refine HBD.out.mono ?_)
      rintro e w2 ⟨rfl, hb2⟩
      have HB2 := Lib.hid hb2
      clear hb2
      go_wp2_with fail
      go_ret
      have hB := HB1.out.trans (HB2.out.mono HB1.out.size)
      exact ⟨28, S, o, rfl, .inr ⟨k, x, HFX.out.1, HFX.out.2.1, HFX.out.2.2, .inl ⟨HBE.out.symm, rfl, rfl⟩⟩, Step.grow HM.out hB, HS.out.grow HM.out hB⟩
    | false =>
      go_wp2_with fail
      (with_reducible refine HBD.out.mono ?_)
      rintro e w2 ⟨rfl, hb2⟩
      have HB2 := Lib.hid (HB1.out.trans (hb2.mono HB1.out.size))
      have hs2 := hb2.size
      have hs1 := HB1.out.size
      have HK : Hid (∀ w', Below w.heap.size w w' → w'.cell? ⟨s, 0, none⟩ = some (.slice (some ⟨g, off, none⟩) n c) ∧ w'.frozen? ⟨s, 0, none⟩ = false) := fun w' hb => by
        have := (hb.block s h3).trans HH.out
        rw [HN.out]
        refine ⟨?_, ?_⟩ <;> simp [World.cell?, World.frozen?, this]
      clear c0 d2 hb2
      go_wp2_with fail
      refine wp_region_noPanic ?_
      refine wp_region_L (last := 18) (S := (fun w' => w'.cell? ⟨s, 0, none⟩ = some (.slice (some ⟨g, off, none⟩) n c) ∧ w'.frozen? ⟨s, 0, none⟩ = false)) (by kernel_rfl) ?_ (fun hS => ?_)
      · exact HK.out _ (HB2.out.trans (Below.refl _ _).drew)
      refine wpAnyL_take (i := 0) (oi := ?oi1) (v := ?v1) ?hi1 (by kernel_rfl) (by kernel_rfl) (by kernel_rfl) (by kernel_rfl) (by kernel_rfl) ?hq1 (Or.inl ⟨?hw1, ?hy1⟩) hS ?rest1
      case hi1 => simp only [List.getElem?_toArray, List.getElem?_cons_succ, List.getElem?_cons_zero]; rfl
      case hq1 => exact fun _ _ _ h => h
      case hw1 => rfl
      case hy1 => intro w hSw; (try dsimp only at hSw); go_simp; (try with_reducible rfl)
      try simp only [Act.put, List.setIfInBounds_toArray, List.set_cons_zero, List.set_cons_succ]
      refine wpAnyL_take (i := 1) (oi := ?oi2) (v := ?v2) ?hi2 (by kernel_rfl) (by kernel_rfl) (by kernel_rfl) (by kernel_rfl) (by kernel_rfl) ?hq2 (Or.inl ⟨?hw2, ?hy2⟩) hS ?rest2
      case hi2 => simp only [List.getElem?_toArray, List.getElem?_cons_succ, List.getElem?_cons_zero]; rfl
      case hq2 => exact fun _ _ _ h => h
      case hw2 => rfl
      case hy2 => intro w hSw; (try dsimp only at hSw); go_simp; (try with_reducible rfl)
      try simp only [Act.put, List.setIfInBounds_toArray, List.set_cons_zero, List.set_cons_succ]
      refine wpAnyL_take (i := 2) (oi := ?oi3) (v := ?v3) ?hi3 (by kernel_rfl) (by kernel_rfl) (by kernel_rfl) (by kernel_rfl) (by kernel_rfl) ?hq3 (Or.inl ⟨?hw3, ?hy3⟩) hS ?rest3
      case hi3 => simp only [List.getElem?_toArray, List.getElem?_cons_succ, List.getElem?_cons_zero]; rfl
      case hq3 => exact fun _ _ _ h => h
      case hw3 => rfl
      case hy3 => intro w hSw; (try dsimp only at hSw); go_simp; (try with_reducible rfl)
      try simp only [Act.put, List.setIfInBounds_toArray, List.set_cons_zero, List.set_cons_succ]
      refine wpAnyL_take (i := 3) (oi := ?oi4) (v := ?v4) ?hi4 (by kernel_rfl) (by kernel_rfl) (by kernel_rfl) (by kernel_rfl) (by kernel_rfl) ?hq4 (Or.inl ⟨?hw4, ?hy4⟩) hS ?rest4
      case hi4 => simp only [List.getElem?_toArray, List.getElem?_cons_succ, List.getElem?_cons_zero]; rfl
      case hq4 => exact fun _ _ _ h => h
      case hw4 => rfl
      case hy4 => intro w hSw; (try dsimp only at hSw); go_simp; (try with_reducible rfl)
      try simp only [Act.put, List.setIfInBounds_toArray, List.set_cons_zero, List.set_cons_succ]
      refine wpAnyL_take (i := 4) (oi := ?oi5) (v := ?v5) ?hi5 (by kernel_rfl) (by kernel_rfl) (by kernel_rfl) (by kernel_rfl) (by kernel_rfl) ?hq5 (Or.inl ⟨?hw5, ?hy5⟩) hS ?rest5
      case hi5 => simp only [List.getElem?_toArray, List.getElem?_cons_succ, List.getElem?_cons_zero]; rfl
      case hq5 => exact fun _ _ _ h => h
      case hw5 => rfl
      case hy5 => intro w hSw; (try dsimp only at hSw); go_simp; (try with_reducible rfl)
      try simp only [Act.put, List.setIfInBounds_toArray, List.set_cons_zero, List.set_cons_succ]
      refine wpAnyL_take (i := 5) (oi := ?oi6) (v := ?v6) ?hi6 (by kernel_rfl) (by kernel_rfl) (by kernel_rfl) (by kernel_rfl) (by kernel_rfl) ?hq6 (Or.inl ⟨?hw6, ?hy6⟩) hS ?rest6
      case hi6 => simp only [List.getElem?_toArray, List.getElem?_cons_succ, List.getElem?_cons_zero]; rfl
      case hq6 => exact fun _ _ _ h => h
      case hw6 => rfl
      case hy6 => intro w hSw; (try dsimp only at hSw); go_simp; (try with_reducible rfl)
      try simp only [Act.put, List.setIfInBounds_toArray, List.set_cons_zero, List.set_cons_succ]
      refine wpAnyL_take (i := 6) (oi := ?oi7) (v := ?v7) ?hi7 (by kernel_rfl) (by kernel_rfl) (by kernel_rfl) (by kernel_rfl) (by kernel_rfl) ?hq7 (Or.inl ⟨?hw7, ?hy7⟩) hS ?rest7
      case hi7 => simp only [List.getElem?_toArray, List.getElem?_cons_succ, List.getElem?_cons_zero]; rfl
      case hq7 => exact fun _ _ _ h => h
      case hw7 => rfl
      case hy7 => intro w hSw; (try dsimp only at hSw); go_simp; (try with_reducible rfl)
      try simp only [Act.put, List.setIfInBounds_toArray, List.set_cons_zero, List.set_cons_succ]
      refine wpAnyL_take (i := 7) (oi := ?oi8) (v := ?v8) ?hi8 (by kernel_rfl) (by kernel_rfl) (by kernel_rfl) (by kernel_rfl) (by kernel_rfl) ?hq8 (Or.inl ⟨?hw8, ?hy8⟩) hS ?rest8
      case hi8 => simp only [List.getElem?_toArray, List.getElem?_cons_succ, List.getElem?_cons_zero]; rfl
      case hq8 => exact fun _ _ _ h => h
      case hw8 => rfl
      case hy8 => intro w hSw; (try dsimp only at hSw); go_simp; (try with_reducible rfl)
      try simp only [Act.put, List.setIfInBounds_toArray, List.set_cons_zero, List.set_cons_succ]
      refine wpAnyL_take (i := 8) (oi := ?oi9) (v := ?v9) ?hi9 (by kernel_rfl) (by kernel_rfl) (by kernel_rfl) (by kernel_rfl) (by kernel_rfl) ?hq9 (Or.inl ⟨?hw9, ?hy9⟩) hS ?rest9
      case hi9 => simp only [List.getElem?_toArray, List.getElem?_cons_succ, List.getElem?_cons_zero]; rfl
      case hq9 => exact fun _ _ _ h => h
      case hw9 => rfl
      case hy9 => intro w hSw; (try dsimp only at hSw); go_simp; (try with_reducible rfl)
      try simp only [Act.put, List.setIfInBounds_toArray, List.set_cons_zero, List.set_cons_succ]
      refine wpAnyL_take (i := 9) (oi := ?oi10) (v := ?v10) ?hi10 (by kernel_rfl) (by kernel_rfl) (by kernel_rfl) (by kernel_rfl) (by kernel_rfl) ?hq10 (Or.inl ⟨?hw10, ?hy10⟩) hS ?rest10
      case hi10 => simp only [List.getElem?_toArray, List.getElem?_cons_succ, List.getElem?_cons_zero]; rfl
      case hq10 => exact fun _ _ _ h => h
      case hw10 => rfl
      case hy10 => intro w hSw; (try dsimp only at hSw); go_simp; (try with_reducible rfl)
      try simp only [Act.put, List.setIfInBounds_toArray, List.set_cons_zero, List.set_cons_succ]
      refine wpAnyL_take (i := 10) (oi := ?oi11) (v := ?v11) ?hi11 (by kernel_rfl) (by kernel_rfl) (by kernel_rfl) (by kernel_rfl) (by kernel_rfl) ?hq11 (Or.inl ⟨?hw11, ?hy11⟩) hS ?rest11
      case hi11 => simp only [List.getElem?_toArray, List.getElem?_cons_succ, List.getElem?_cons_zero]; rfl
      case hq11 => exact fun _ _ _ h => h
      case hw11 => rfl
      case hy11 => intro w hSw; (try dsimp only at hSw); go_simp; (try with_reducible rfl)
      try simp only [Act.put, List.setIfInBounds_toArray, List.set_cons_zero, List.set_cons_succ]
      refine wpAnyL_take (i := 11) (oi := ?oi12) (v := ?v12) ?hi12 (by kernel_rfl) (by kernel_rfl) (by kernel_rfl) (by kernel_rfl) (by kernel_rfl) ?hq12 (Or.inl ⟨?hw12, ?hy12⟩) hS ?rest12
      case hi12 => simp only [List.getElem?_toArray, List.getElem?_cons_succ, List.getElem?_cons_zero]; rfl
      case hq12 => exact fun _ _ _ h => h
      case hw12 => rfl
      case hy12 => intro w hSw; (try dsimp only at hSw); go_simp; (try with_reducible rfl)
      try simp only [Act.put, List.setIfInBounds_toArray, List.set_cons_zero, List.set_cons_succ]
      refine wpAnyL_take (i := 12) (oi := ?oi13) (v := ?v13) ?hi13 (by kernel_rfl) (by kernel_rfl) (by kernel_rfl) (by kernel_rfl) (by kernel_rfl) ?hq13 (Or.inl ⟨?hw13, ?hy13⟩) hS ?rest13
      case hi13 => simp only [List.getElem?_toArray, List.getElem?_cons_succ, List.getElem?_cons_zero]; rfl
      case hq13 => exact fun _ _ _ h => h
      case hw13 => rfl
      case hy13 => intro w hSw; (try dsimp only at hSw); go_simp; (try with_reducible rfl)
      try simp only [Act.put, List.setIfInBounds_toArray, List.set_cons_zero, List.set_cons_succ]
      refine wpAnyL_take (i := 13) (oi := ?oi14) (v := ?v14) ?hi14 (by kernel_rfl) (by kernel_rfl) (by kernel_rfl) (by kernel_rfl) (by kernel_rfl) ?hq14 (Or.inl ⟨?hw14, ?hy14⟩) hS ?rest14
      case hi14 => simp only [List.getElem?_toArray, List.getElem?_cons_succ, List.getElem?_cons_zero]; rfl
      case hq14 => exact fun _ _ _ h => h
      case hw14 => rfl
      case hy14 => intro w hSw; (try dsimp only at hSw); go_simp; (try with_reducible rfl)
      try simp only [Act.put, List.setIfInBounds_toArray, List.set_cons_zero, List.set_cons_succ]
      obtain ⟨A2, hA2⟩ : ∃ A2 : Option Addr, A2 = if c = k + 1 then some ⟨g, off, none⟩ else some ⟨g, off + (k + 1) * 3, none⟩ := ⟨_, rfl⟩
      rw [← hA2]
      have HA2 := Lib.hid hA2
      clear hA2
      refine wpAnyL_ready (rs := [14]) (by kernel_rfl) (by simp) ?_
      refine AllReadyL.cons (o := ?o15) ?ho15 (fun K hK => ?_) AllReadyL.nil
      case ho15 => simp only [List.getElem?_toArray, List.getElem?_cons_succ, List.getElem?_cons_zero]; rfl
      go_simp
      have hBA : Below w2.heap.size w2 (w2.alloc (.cells #[.slice (some ⟨g, off, none⟩) k c, .slice A2 (n - (k + 1)) (c - (k + 1))] 102)).drew := (wall w2 _).trans (Below.refl _ _).drew
      have hBW : Below w.heap.size w (w2.alloc (.cells #[.slice (some ⟨g, off, none⟩) k c, .slice A2 (n - (k + 1)) (c - (k + 1))] 102)).drew := HB2.out.trans (hBA.mono HB2.out.size)
      have HBW := Lib.hid hBW
      obtain ⟨hC0, hC1, hzA⟩ := two_cells w2 (.slice (some ⟨g, off, none⟩) k c) (.slice A2 (n - (k + 1)) (c - (k + 1))) 102
      have hRR := (cut_rowsO (c := c) HRX.out hkn hBW).resolve_right (by omega)
      rw [← HA2.out] at hRR
      have hv1 := HON.out.one
      have hvl := HON.out.len
      have hfl : ([vals.take (k * 3), vals.drop ((k + 1) * 3)].flatten).length = (k + (n - (k + 1))) * 3 := by
        rw [← HN.out] at hvl
        simp [hvl]; omega
      have HCC := Lib.hid (concatO_any (w2.heap.size) 2 (k + (n - (k + 1))) [vals.take (k * 3), vals.drop ((k + 1) * 3)] _ rfl (by omega) hzA hfl (by omega) (fun j hj => by
        rcases j with _ | _ | j
        · exact ⟨_, _, _, _, hC0, hRR.1, rfl, fun u hu => hv1 u (List.mem_of_mem_take hu)⟩
        · exact ⟨_, _, _, _, hC1, hRR.2, rfl, fun u hu => hv1 u (List.mem_of_mem_drop hu)⟩
        · omega))
      have HBA := Lib.hid hBA
      clear hBA hC0 hC1 hRR hv1 hvl hfl hzA
      refine hK.out _ _ (fun _ => HK.out _ hBW) (fun hS => ?_)
      replace hS := hS (by decide)
      clear hK K
      try simp only [Act.put, List.setIfInBounds_toArray, List.set_cons_zero, List.set_cons_succ]
      clear hBW
      refine wpAnyL_ready (rs := [15]) (by kernel_rfl) (by simp) ?_
      refine AllReadyL.cons (o := ?o16) ?ho16 (fun K hK => ?_) AllReadyL.nil
      case ho16 => simp only [List.getElem?_toArray, List.getElem?_cons_succ, List.getElem?_cons_zero]; rfl
      go_simp
      (with_reducible refine HCC.out.mono ?_)
      rintro e w3 ⟨v8, rfl, hown, hb3⟩
      have HB3 := Lib.hid (HBW.out.trans (hb3.mono HBW.out.size))
      have HOWN := Lib.hid hown
      obtain ⟨a8, c8, rfl, -⟩ := own_form hown
      clear hown hb3
      go_wp2_with fail
      refine hK.out _ _ (fun _ => HK.out _ HB3.out) (fun hS => ?_)
      replace hS := hS (by decide)
      clear hK K
      try simp only [Act.put, List.setIfInBounds_toArray, List.set_cons_zero, List.set_cons_succ]
      refine wpAnyL_take (i := 16) (oi := ?oi17) (v := ?v17) ?hi17 (by kernel_rfl) (by kernel_rfl) (by kernel_rfl) (by kernel_rfl) (by kernel_rfl) ?hq17 (Or.inl ⟨?hw17, ?hy17⟩) hS ?rest17
      case hi17 => simp only [List.getElem?_toArray, List.getElem?_cons_succ, List.getElem?_cons_zero]; rfl
      case hq17 => exact fun _ _ _ h => h
      case hw17 => rfl
      case hy17 => intro w hSw; (try dsimp only at hSw); go_simp; (try with_reducible rfl)
      try simp only [Act.put, List.setIfInBounds_toArray, List.set_cons_zero, List.set_cons_succ]
      refine wpAnyL_take (i := 17) (oi := ?oi18) (v := ?v18) ?hi18 (by kernel_rfl) (by kernel_rfl) (by kernel_rfl) (by kernel_rfl) (by kernel_rfl) ?hq18 (Or.inl ⟨?hw18, ?hy18⟩) hS ?rest18
      case hi18 => simp only [List.getElem?_toArray, List.getElem?_cons_succ, List.getElem?_cons_zero]; rfl
      case hq18 => exact fun _ _ _ h => h
      case hw18 => rfl
      case hy18 => intro w hSw; (try dsimp only at hSw); go_simp; (try with_reducible rfl)
      try simp only [Act.put, List.setIfInBounds_toArray, List.set_cons_zero, List.set_cons_succ]
      refine wpAnyL_ready (rs := [18]) (by kernel_rfl) (by simp) ?_
      refine AllReadyL.cons (o := ?o19) ?ho19 (fun K hK => ?_) AllReadyL.nil
      case ho19 => simp only [List.getElem?_toArray, List.getElem?_cons_succ, List.getElem?_cons_zero]; rfl
      go_simp
      refine hK.out _ _ (fun h => absurd rfl h) (fun hS => ?_)
      clear hS hK K
      try simp only [Act.put, List.setIfInBounds_toArray, List.set_cons_zero, List.set_cons_succ]
      refine wpAnyL_done (by kernel_rfl) ?_ _
      refine NoPanic.normal ?_
      go_wp2_with fail
      go_ret
      have hlen : (S.l.take k ++ S.l.drop (k + 1)).length = k + (n - (k + 1)) := by
        have := HN.out
        rw [List.length_append, List.length_take, List.length_drop]; omega
      have hown := HOWN.out
      rw [← hlen] at hown
      have hfe : [vals.take (k * 3), vals.drop ((k + 1) * 3)].flatten = vals.take (k * 3) ++ vals.drop ((k + 1) * 3) := by simp
      rw [hfe] at hown
      obtain ⟨o', hs, hSn⟩ := forget_end (k := k) HM.out hi HH.out HOS.out h3 HON.out HLC.out HLR.out HB3.out hown HBW.out.size
      rw [hlen] at hs hSn
      exact ⟨0, _, o', rfl, .inr ⟨k, x, HFX.out.1, HFX.out.2.1, HFX.out.2.2, .inr ⟨HBE.out.symm, rfl, rfl⟩⟩, hs, hSn⟩
end
end Go.Proofs.YtpgklnhkfgbpgaaGreatDoor
