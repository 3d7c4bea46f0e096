/- tree: Make. tree: file, Node, Count, Look, settle, Seal, Keep. tree: settle, Seal, Keep. -/
import Derived.Test.YtmabllemjkcobaaGreatDoorM07
import Derived.Test.YtmabllemjkcobaaGreatDoorM09
import Derived.Deep.RegionHeld3
namespace Go.Proofs.YtmabllemjkcobaaGreatDoor
open Go.ChangeShapes Go.WideShapes Go.ChangeAt Go.RowKit
set_option linter.unusedVariables false
set_option linter.unusedSimpArgs false

/-- A tree is turned, and nothing else. -/
def Turn (g : Nat → Own) (D : Nat → Prop) (w : World) (p mb : Nat) (T' : TrM) (v : Value) (e : Ending) (w' : World) : Prop :=
  e = .returned v ∧ ∃ g' D' ib' nb', TreeAt g' D' w' p mb ib' nb' T' ∧ (∀ b, g' b ≠ .none → g b ≠ .none ∨ w.heap.size ≤ b) ∧ (∀ b, D' b → D b ∨ w.heap.size ≤ b) ∧ Keeps (fun b => g b ≠ .none) w w'
theorem Turn.same {g : Nat → Own} {D : Nat → Prop} {w w' : World} {p mb : Nat} {ib nb : Int → Nat} {T : TrM} {v : Value} {e : Ending} (h : TreeAt g D w p mb ib nb T) (hb : Below w.heap.size w w') (he : e = .returned v) : Turn g D w p mb T v e w' :=
  ⟨he, g, D, ib, nb, h.below hb (Nat.le_refl _), fun b h => .inl h, fun b h => .inl h, (Keeps.below hb).mono fun x hx hx' => absurd hx (by omega)⟩
theorem placeM_spec {T : TrM} {p : List Nm} (hT : OkM T) (h : (placeM T p).2.2 = 0) : ∃ x, aget (placeM T p).1 T = some x ∧ x.kind = 2 ∧ (placeM T p).2.1 ∈ p := by
  unfold placeM at h ⊢
  by_cases h0 : p = []
  · rw [if_pos h0] at h; cases h
  · rw [if_neg h0] at h ⊢
    by_cases h1 : (lookM T 0 p.dropLast).2 ≠ 0
    · rw [if_pos h1] at h; exact absurd h h1
    · rw [if_neg h1] at h ⊢
      by_cases h2 : kindM T (lookM T 0 p.dropLast).1 = 2
      · rw [if_pos h2]
        obtain ⟨x, hx, hk⟩ := kindM_some h2
        refine ⟨x, hx, hk, ?_⟩
        cases p with
        | nil => exact absurd rfl h0
        | cons z r => simp [List.getLastD_eq_getLast?, List.getLast?_eq_some_getLast]
      · rw [if_neg h2] at h; cases h
theorem fineL_good {p : List Nm} (h : fineL p = 0) : ∀ n ∈ p, goodL n = true := by
  unfold fineL at h
  split at h
  · cases h
  · rename_i h1
    intro n hn
    have h2 : (p.any fun x => !goodL x) = false := by simpa only [Bool.not_eq_true] using h1
    have := List.any_eq_false.1 h2 n hn
    simpa using this
theorem fineL_len {p : List Nm} (h : fineL p = 0) : p.length ≤ 8 := by
  unfold fineL at h
  split at h
  · cases h
  · split at h
    · cases h
    · omega
theorem good_len (l : List UInt8) (h : goodL l = true) : l.length ≤ 16 := by
  simp only [goodL, Bool.and_eq_true, decide_eq_true_eq] at h
  exact h.1.1.2
theorem fine_one (p : List Nm) : fineAll [p] = fineL p := by
  unfold fineAll fineAll
  by_cases h : fineL p ≠ 0
  · rw [if_pos h]
  · rw [if_neg h]; omega
theorem fine_two (p q : List Nm) : fineAll [p, q] = fine2 p q := by
  unfold fineAll fine2
  by_cases h : fineL p ≠ 0
  · rw [if_pos h, if_pos h]
  · rw [if_neg h, if_neg h, fine_one]
theorem slice_cell {w : World} {v : Value} {t : TypeId} : (w.alloc (.cells #[v] t)).cell? ⟨w.heap.size, 0, none⟩ = some v := by
  simp only [World.cell?, (MapKept.heap_alloc w _).1]; rfl
theorem slice_cells2 {w : World} {u v : Value} {t : TypeId} : (w.alloc (.cells #[u, v] t)).cell? ⟨w.heap.size, 0, none⟩ = some u ∧ (w.alloc (.cells #[u, v] t)).cell? ⟨w.heap.size, 1, none⟩ = some v := by
  simp only [World.cell?, (MapKept.heap_alloc w _).1]; exact ⟨rfl, rfl⟩
theorem wall (w : World) (o : Obj) : Below w.heap.size w (w.alloc o) := (Below.refl _ _).alloc (Nat.le_refl _) _
/-- fine of one path. -/
theorem fine1_at {S : Nat → Prop} (a : Option Addr) (n c : Nat) (ls : List Nm) (w : World) (hS : StrsAt S w a n (ls.map strOf)) :
    Calls Tryz.prog 59 #[.slice (some ⟨w.heap.size, 0, none⟩) 1 1] (w.alloc (.cells #[.slice a n c] 32)) fun e w' => e = .returned (.int .i64 (fineL ls)) ∧ Below w.heap.size w w' := by
  refine (tfine_any (S := S) w.heap.size 1 [ls] _ rfl (by omega) (by simp) (fun k hk => ?_)).mono ?_
  · obtain rfl : k = 0 := by omega
    exact ⟨a, n, c, ls, slice_cell, hS.below (wall w _) (Nat.le_refl _), rfl⟩
  · rintro e w' ⟨rfl, hb⟩
    rw [fine_one]
    exact ⟨rfl, (wall w _).trans (hb.mono (by simp))⟩
theorem fine2_at {S S' : Nat → Prop} (a : Option Addr) (n c : Nat) (ls : List Nm) (a' : Option Addr) (n' c' : Nat) (ls' : List Nm) (w : World) (hS : StrsAt S w a n (ls.map strOf)) (hS' : StrsAt S' w a' n' (ls'.map strOf)) :
    Calls Tryz.prog 59 #[.slice (some ⟨w.heap.size, 0, none⟩) 2 2] (w.alloc (.cells #[.slice a n c, .slice a' n' c'] 32)) fun e w' => e = .returned (.int .i64 (fine2 ls ls')) ∧ Below w.heap.size w w' := by
  refine (tfine_any (S := fun x => S x ∨ S' x) w.heap.size 2 [ls, ls'] _ rfl (by omega) (by simp) (fun k hk => ?_)).mono ?_
  · rcases (show k = 0 ∨ k = 1 by omega) with rfl | rfl
    · exact ⟨a, n, c, ls, slice_cells2.1, (hS.below (wall w _) (Nat.le_refl _)).mono fun _ => .inl, rfl⟩
    · exact ⟨a', n', c', ls', slice_cells2.2, (hS'.below (wall w _) (Nat.le_refl _)).mono fun _ => .inr, rfl⟩
  · rintro e w' ⟨rfl, hb⟩
    rw [fine_two]
    exact ⟨rfl, (wall w _).trans (hb.mono (by simp))⟩
theorem turned_keeps0 {w w' : World} {b : Nat} (h : w.mapTurned w' b) : Keeps (fun x => x = b) w w' := Keeps.turned h
theorem turned_below {w w' : World} {b : Nat} (h : w.mapTurned w' b) (x : Nat) (hx : x < w.heap.size) (hn : x ≠ b) : w'.heap[x]? = w.heap[x]? := (turned_keeps0 h).block x hx hn
theorem turned_keeps {w w' : World} {b : Nat} (h : w.mapTurned w' b) : Keeps (fun x => x = b) w w' := Keeps.turned h

/-- The names of a directory are turned. -/
theorem TreeAt.names {g : Nat → Own} {D : Nat → Prop} {w w' : World} {p mb : Nat} {ib nb : Int → Nat} {T : TrM} (h : TreeAt g D w p mb ib nb T) {d : Int} {x : ItM} {l : List (Nm × Int)} (hx : aget d T = some x) (hk : x.kind = 2) (hM : MapAt strK w' (nb d) (nameL { x with names := l })) (hT : w.mapTurned w' (nb d)) (f : ItM → ItM) (hf : f x = { x with names := l }) :
    TreeAt g D w' p mb ib nb (Go.Proofs.YtmabllemjkcobaaGreatDoor.amod d f T) := by
  have hs := turned_size hT
  have hn := h.tagn d x hx hk
  refine h.amod hx (by rw [hf]) (fun _ h => h) (fun b hb => ⟨h.data b hb, by rw [hs]; exact h.dlow b hb⟩) (by omega) (fun b hb h1 h2 => turned_below hT b hb (fun e => h2 (by rw [e]; exact hn))) ?_
  have hb : ∀ b, b < w.heap.size → g b ≠ .names d → w'.heap[b]? = w.heap[b]? := fun b hb h2 => turned_below hT b hb (fun e => h2 (by rw [e]; exact hn))
  have hi := h.item d x hx
  have ti := h.tagi d x hx
  obtain ⟨a, c, h1, h2, h3⟩ := hi.cells
  rw [hf]
  refine ⟨⟨a, c, (hb _ (h.low _ (by rw [ti]; simp)) (by rw [ti]; simp)).trans h1, h2, h3.kept (by omega) fun b hD hbw => hb b hbw (by rw [h.data b hD]; simp)⟩, fun _ => hM⟩
theorem TreeAt.set {g : Nat → Own} {D : Nat → Prop} {w w' : World} {p mb : Nat} {ib nb : Int → Nat} {T : TrM} (h : TreeAt g D w p mb ib nb T) {d id : Int} {x : ItM} {n : Nm} (hx : aget d T = some x) (hk : x.kind = 2) (hM : MapAt strK w' (nb d) (aput strK.lt n (.int .i64 id) (nameL x))) (hT : w.mapTurned w' (nb d)) :
    TreeAt g D w' p mb ib nb (setName T d n id) := by
  refine h.names (l := aput bytesBefore n id x.names) hx hk ?_ hT _ rfl
  have e : nameL { x with names := aput bytesBefore n id x.names } = aput strK.lt n (.int .i64 id) (nameL x) := aput_mapK bytesBefore (fun (_ : Nm) (i : Int) => Value.int .i64 i) n id x.names
  rw [e]
  exact hM
theorem TreeAt.cut {g : Nat → Own} {D : Nat → Prop} {w w' : World} {p mb : Nat} {ib nb : Int → Nat} {T : TrM} (h : TreeAt g D w p mb ib nb T) {d : Int} {x : ItM} {n : Nm} (hx : aget d T = some x) (hk : x.kind = 2) (hM : MapAt strK w' (nb d) (adel n (nameL x))) (hT : w.mapTurned w' (nb d)) :
    TreeAt g D w' p mb ib nb (cutName T d n) := by
  refine h.names (l := adel n x.names) hx hk ?_ hT _ rfl
  have e : nameL { x with names := adel n x.names } = adel n (nameL x) := adel_mapK (fun (_ : Nm) (i : Int) => Value.int .i64 i) n x.names
  rw [e]
  exact hM
theorem make_mid {g : Nat → Own} {D : Nat → Prop} {w w3 w4 : World} {p mb : Nat} {ib nb : Int → Nat} {T : TrM} {f kind : Int} (h : TreeAt g D w p mb ib nb T) (hf : aget f T = none) (hi : ItemAt (fun _ => False) w3 f w.heap.size (w.heap.size + 1) (freshM kind)) (hb : Below w.heap.size w w3) (hs : w.heap.size < w3.heap.size) (hs2 : kind = 2 → w.heap.size + 1 < w3.heap.size)
    (hM : MapAt intK w4 mb (aput intK.lt f (ptr w.heap.size) (T.map fun q => (q.1, ptr (ib q.1))))) (hT : w3.mapTurned w4 mb) :
    ∃ g1 ib1 nb1, TreeAt g1 D w4 p mb ib1 nb1 (aput ilt f (freshM kind) T) ∧ (∀ b, g1 b ≠ .none → g b ≠ .none ∨ w.heap.size ≤ b) ∧ Keeps (fun b => g b ≠ .none) w w4 ∧ ∀ j, j ≠ f → ib1 j = ib j ∧ nb1 j = nb j := by
  have hsz := turned_size hT
  have hK := turned_keeps hT
  have hmw := h.map.lt
  refine ⟨_, _, _, h.add (i := w.heap.size) (n := w.heap.size + 1) (x := freshM kind) (k := f) (Nat.le_refl _) (by omega) (by omega) (by omega) (fun hk => by have := hs2 hk; omega) hf rfl hM (by omega) (fun b hbw hbm => (hK.block b (by omega) hbm).trans (hb.block b hbw)) (hi.move (by omega) (hK.block _ hs (by omega)) (fun hk => hK.block _ (hs2 hk) (by omega)) (fun _ h => h.elim)), fun b hb1 => ?_, ⟨hK.os.trans hb.os, hK.tape.trans hb.tape, hK.output.trans hb.output, by omega, fun b hbw hbg => (hK.block b (by omega) (fun e => hbg (by rw [e, h.tagm]; simp))).trans (hb.block b hbw)⟩, fun j hj => ⟨by simp [hj], by simp [hj]⟩⟩
  by_cases hbi : w.heap.size ≤ b
  · exact .inr hbi
  · simp only [if_neg (show ¬ b = w.heap.size by omega), if_neg (show ¬ (b = w.heap.size + 1 ∧ (freshM kind).kind = 2) by omega)] at hb1
    exact .inl hb1

theorem make_end {g g1 : Nat → Own} {w w2 w4 w5 : World} {nd : Nat} (hb2 : Below w.heap.size w w2) (hg1 : ∀ b, g1 b ≠ .none → g b ≠ .none ∨ w2.drew.heap.size ≤ b) (hK4 : Keeps (fun b => g b ≠ .none) w2.drew w4) (hT5 : w4.mapTurned w5 nd) (hnd : g1 nd ≠ .none) :
    (∀ b, g1 b ≠ .none → g b ≠ .none ∨ w.heap.size ≤ b) ∧ Keeps (fun b => g b ≠ .none) w w5 := by
  have hs := hb2.size
  have hK := turned_keeps hT5
  have h4 : w2.heap.size ≤ w4.heap.size := hK4.size
  have h5 := hK.size
  refine ⟨fun b hb => (hg1 b hb).imp id fun h => Nat.le_trans hs h, hK.os.trans (hK4.os.trans hb2.os), hK.tape.trans (hK4.tape.trans hb2.tape), hK.output.trans (hK4.output.trans hb2.output), by omega, fun b hb hbg => ?_⟩
  have h6 : b ≠ nd := fun e => by
    rcases hg1 b (by rw [e]; exact hnd) with h | h
    · exact hbg h
    · have : w2.heap.size ≤ b := h
      omega
  exact (hK.block b (by omega) h6).trans ((hK4.block b (show b < w2.heap.size by omega) hbg).trans (hb2.block b hb))

set_option maxRecDepth 100000 in
set_option maxHeartbeats 8000000 in
theorem make_at {S : Nat → Prop} {g : Nat → Own} {D : Nat → Prop} {p mb : Nat} {ib nb : Int → Nat} {T : TrM} (a : Option Addr) (n c : Nat) (ls : List Nm) (kind : Int) (w : World) (h : TreeAt g D w p mb ib nb T) (hT : OkM T) (hS : StrsAt S w a n (ls.map strOf)) (hc : n ≤ c) (hn8 : n ≤ 1000000) :
    Calls Tryz.prog 15 #[ptr p, .slice a n c, .int .i64 kind] w (Turn g D w p mb (makeM T ls kind).2 (.tuple #[.int .i64 (makeM T ls kind).1.1, .int .i64 (makeM T ls kind).1.2])) := by
  have HH := Lib.hid h
  have HT := Lib.hid hT
  have HS := Lib.hid hS
  have HF := Lib.hid (fine1_at (S := S) a n c ls w hS)
  clear h hT hS
  by_cases hf : fineL ls = 0
  · have HFL := Lib.hid hf
    rw [hf] at HF
    clear hf
    by_cases hk : kind = 1 ∨ kind = 2
    · have HK := Lib.hid hk
      have HPL := Lib.hid (fun w1 (hb : Below w.heap.size w w1) => place_any a n c ls w1 (HH.out.below hb (Nat.le_refl _)) HT.out (HS.out.below hb (Nat.le_refl _)) hc hn8)
      by_cases hp : (placeM T ls).2.2 = 0
      · obtain ⟨x, hx, hxk, hnm⟩ := placeM_spec HT.out hp
        have hgn := fineL_good HFL.out _ hnm
        have HPE := Lib.hid hp
        obtain ⟨⟨d, nm, z⟩, hq⟩ : ∃ q, q = placeM T ls := ⟨_, rfl⟩
        unfold RetPlace at HPL
        rw [← hq] at hp hx hnm hgn HPL
        obtain rfl : z = 0 := hp
        have HQ := Lib.hid hq
        have HX := Lib.hid hx
        have HG := Lib.hid hgn
        have HXK := Lib.hid hxk
        clear hq hx hgn hxk hnm
        have hids := HT.out.ids d x HX.out
        have hlen := HT.out.len
        have hokn : strK.ok nm := by
          have := good_len nm HG.out
          show nm.length ≤ maxLen
          unfold maxLen; omega
        have HME : Hid (∀ k, (64 ≤ T.length → k = 4) → (T.length < 64 → k = 0) → makeE T ls kind = if (aget nm x.names).isSome then 21 else k) := fun k h4 h0 => by
          unfold makeE
          have e1 : namesM T d = x.names := by unfold namesM; rw [HX.out]
          rw [if_neg (by rw [HFL.out]; simp), if_neg (fun h => h hk), ← HQ.out, if_neg (by simp), e1]
          by_cases h64 : 64 ≤ T.length
          · rw [if_pos h64, h4 h64]
          · rw [if_neg h64, h0 (by omega)]
        have HCELL : Hid (∀ w2, Below w.heap.size w w2 → w2.cell? ⟨ib d, 7, none⟩ = some (.map (some (nb d))) ∧ MapAt strK w2 (nb d) (nameL x) ∧ w2.cell? ⟨p, 0, none⟩ = some (.map (some mb)) ∧ MapAt intK w2 mb (T.map fun q => (q.1, ptr (ib q.1)))) := fun w2 hb => by
          have h2 := HH.out.below hb (Nat.le_refl _)
          have hi := h2.item d x HX.out
          obtain ⟨_, _, _, _, _, _, c7, _⟩ := hi.cell
          unfold namesV at c7
          rw [if_pos HXK.out] at c7
          exact ⟨c7, hi.names HXK.out, h2.cell.1, h2.map⟩
        cases hj : aget nm x.names with
        | some j =>
          have hgn : aget nm (nameL x) = some (.int .i64 j) := by rw [aget_nameL, hj]; rfl
          have HGN := Lib.hid hgn
          have hm : makeM T ls kind = ((0, 21), T) := by
            have : makeE T ls kind = 21 := by rw [HME.out (if 64 ≤ T.length then 4 else 0) (fun h => if_pos h) (fun h => if_neg (by omega)), hj]; rfl
            unfold makeM; rw [this]; simp
          have HM := Lib.hid hm
          clear hm hj hgn
          rcases hk with rfl | rfl
          all_goals
            go_enter Tryz.func15, Tryz.ntmps15
            go_wp2_with fail
            (with_reducible refine HF.out.mono ?_)
            rintro e w1 ⟨rfl, hb1⟩
            have HB1 := Lib.hid hb1
            clear hb1
            go_wp2_with fail
            (with_reducible refine (HPL.out w1 HB1.out).mono ?_)
            rintro e w2 ⟨rfl, hb2⟩
            (first | rw [if_pos rfl] | rw [if_pos trivial])
            have HB2 := Lib.hid (HB1.out.trans (hb2.mono HB1.out.size))
            clear hb2
            obtain ⟨c7, hnames, _, _⟩ := HCELL.out w2 HB2.out
            have HNM := Lib.hid hnames
            clear hnames
            go_wp2_with (at_lookup; refine wpList_look_ok strK rfl _ _ 92 3 rfl Tryz.underlying92 (Tryz.zeroInt _) rfl HNM.out nm rfl hokn ?_; rw [HGN.out])
            go_ret2
            rw [HM.out]
            exact Turn.same HH.out HB2.out rfl
        | none =>
          have hgn : aget nm (nameL x) = none := by rw [aget_nameL, hj]; rfl
          have HGN := Lib.hid hgn
          have HJ := Lib.hid hj
          clear hgn hj
          by_cases h64 : 64 ≤ T.length
          · have hm : makeM T ls kind = ((0, 4), T) := by
              have : makeE T ls kind = 4 := by rw [HME.out 4 (fun _ => rfl) (fun h => by omega), HJ.out]; rfl
              unfold makeM; rw [this]; simp
            have HM := Lib.hid hm
            have hd64 : decide ((T.length : Int) < 64) = false := by simp; omega
            have hd65 : decide ((64 : Int) ≤ (T.length : Int)) = true := by simp; omega
            clear hm
            rcases hk with rfl | rfl
            all_goals
              go_enter Tryz.func15, Tryz.ntmps15
              go_wp2_with fail
              (with_reducible refine HF.out.mono ?_)
              rintro e w1 ⟨rfl, hb1⟩
              have HB1 := Lib.hid hb1
              clear hb1
              go_wp2_with fail
              (with_reducible refine (HPL.out w1 HB1.out).mono ?_)
              rintro e w2 ⟨rfl, hb2⟩
              (first | rw [if_pos rfl] | rw [if_pos trivial])
              have HB2 := Lib.hid (HB1.out.trans (hb2.mono HB1.out.size))
              clear hb2
              obtain ⟨c7, hnames, c0, hmap⟩ := HCELL.out w2 HB2.out
              have HNM := Lib.hid hnames
              have HMAP := Lib.hid hmap
              clear hnames hmap
              go_wp2_with (first | (at_lookup; refine wpList_look_ok strK rfl _ _ 92 3 rfl Tryz.underlying92 (Tryz.zeroInt _) rfl HNM.out nm rfl hokn ?_; rw [HGN.out]) | (at_len; refine wpList_mlen intK rfl _ 95 88 rfl Tryz.underlying95 rfl HMAP.out ?_; rw [List.length_map]))
              go_ret2
              rw [HM.out]
              exact Turn.same HH.out HB2.out rfl
          · have hm : makeM T ls kind = ((freeM T, 0), makeOk T ls kind) := by
              have : makeE T ls kind = 0 := by rw [HME.out 0 (fun h => absurd h h64) (fun h => rfl), HJ.out]; rfl
              unfold makeM; rw [if_pos this]
            unfold makeOk at hm
            rw [← HQ.out] at hm
            obtain ⟨f, hfE, hf1, hf2, hfn, hfs⟩ := HT.out.free
            rw [hfE] at hm
            have HM := Lib.hid hm
            have HFN := Lib.hid hfn
            have HFS := Lib.hid hfs
            have hd64 : decide ((T.length : Int) < 64) = true := by simp; omega
            have hd65 : decide ((64 : Int) ≤ (T.length : Int)) = false := by simp; omega
            have hfd : d ≠ (f : Int) := fun e => by have := HX.out; rw [e, HFN.out] at this; cases this
            have HFD := Lib.hid hfd
            clear hm hfn hfs hfE hfd
            have hokf : intK.ok (f : Int) := okInt (by omega) (by omega)
            have HK := Lib.hid hk
            rcases hk with rfl | rfl
            all_goals
              go_enter Tryz.func15, Tryz.ntmps15
              go_wp2_with fail
              (with_reducible refine HF.out.mono ?_)
              rintro e w1 ⟨rfl, hb1⟩
              have HB1 := Lib.hid hb1
              clear hb1
              go_wp2_with fail
              (with_reducible refine (HPL.out w1 HB1.out).mono ?_)
              rintro e w2 ⟨rfl, hb2⟩
              (first | rw [if_pos rfl] | rw [if_pos trivial])
              have HB2 := Lib.hid (HB1.out.trans (hb2.mono HB1.out.size))
              clear hb2
              obtain ⟨c7, hnames, c0, hmap⟩ := HCELL.out w2 HB2.out
              have HNM := Lib.hid hnames
              have HMAP := Lib.hid hmap
              clear hnames hmap
              go_wp2_with (first | (at_lookup; refine wpList_look_ok strK rfl _ _ 92 3 rfl Tryz.underlying92 (Tryz.zeroInt _) rfl HNM.out nm rfl hokn ?_; rw [HGN.out]) | (at_len; refine wpList_mlen intK rfl _ 95 88 rfl Tryz.underlying95 rfl HMAP.out ?_; rw [List.length_map]))
              go_loop [14] (fun s => ∃ j : Nat, 1 ≤ j ∧ j ≤ f ∧ s = .int .i64 j) (fun s => f - (intOf s).toNat)
              case atStart => exact ⟨1, by omega, by omega, rfl⟩
              case round =>
                obtain ⟨j, hj1, hjf, rfl⟩ := hrel
                have hokj : intK.ok (j : Int) := okInt (by omega) (by omega)
                by_cases hjf' : j < f
                · obtain ⟨y, hy⟩ := Option.isSome_iff_exists.1 (HFS.out j hj1 hjf')
                  have HGJ : Hid (aget (j : Int) (T.map fun q => (q.1, ptr (ib q.1))) = some (ptr (ib j))) := by rw [aget_ptr, hy]; rfl
                  clear hy
                  go_wp2_with (at_lookup; refine wpList_look intK rfl _ _ 95 88 rfl Tryz.underlying95 (Tryz.zeroItem _) rfl HMAP.out (j : Int) rfl hokj ?_; rw [HGJ.out])
                  go_round
                  case rel => exact ⟨j + 1, by omega, by omega, by go_num⟩
                  case measure => simp [intOf]; omega
                · obtain rfl : f = j := by omega
                  have HGJ : Hid (aget (f : Int) (T.map fun q => (q.1, ptr (ib q.1))) = none) := by rw [aget_ptr, HFN.out]; rfl
                  go_wp2_with (at_lookup; refine wpList_look intK rfl _ _ 95 88 rfl Tryz.underlying95 (Tryz.zeroItem _) rfl HMAP.out (f : Int) rfl hokj ?_; rw [HGJ.out])
                  have HA2 := Lib.hid (HH.out.below HB2.out (Nat.le_refl _))
                  have hpw := HA2.out.cell.2.1
                  have hmw := HA2.out.cell.2.2
                  have hpm : p ≠ mb := fun e => by have h1 := HH.out.tagp; rw [e, HH.out.tagm] at h1; cases h1
                  have hst : ∀ v w3, Below w2.drew.heap.size w2.drew w3 → ∃ w4, (Instr.mapUpdate 95 (.map (some mb)) (.int .i64 (f : Int)) v).run Tryz.prog w3 = .ok () w4 ∧ MapAt intK w4 mb (aput intK.lt (f : Int) v (T.map fun q => (q.1, ptr (ib q.1)))) ∧ w3.mapTurned w4 mb := by
                    intro v w3 hb3
                    have hm1 : MapAt intK w3 mb (T.map fun q => (q.1, ptr (ib q.1))) := HMAP.out.kept (hb3.block mb hmw)
                    exact hm1.store_run intK Tryz.underlying95 (by rw [List.length_map]; unfold maxLen; omega) (f : Int) v hokf
                  have HST := Lib.hid hst
                  have HPM := Lib.hid hpm
                  have hkeep : ∀ w3, Below w2.drew.heap.size w2.drew w3 → w3.cell? ⟨p, 0, none⟩ = some (.map (some mb)) := fun w3 hb3 => (hb3.cell (p := ⟨p, 0, none⟩) hpw).trans c0
                  have hkeep2 : ∀ w3 w4, Below w2.drew.heap.size w2.drew w3 → w3.mapTurned w4 mb → w4.cell? ⟨p, 0, none⟩ = some (.map (some mb)) := fun w3 w4 hb3 hT => (World.cell?_of_block (w := w3) (w' := w4) (a := ⟨p, 0, none⟩) (turned_below hT p (Nat.lt_of_lt_of_le hpw hb3.size) HPM.out)).trans ((hb3.cell (p := ⟨p, 0, none⟩) hpw).trans c0)
                  have HKP := Lib.hid hkeep
                  have HKP2 := Lib.hid hkeep2
                  have HFA := Lib.hid (fun w => fresh_any (f : Int) 1 w)
                  clear hst hpm hkeep hkeep2
                  go_region_held3 (fun w' => w'.cell? ⟨p, 0, none⟩ = some (.map (some mb))) (first | exact c0 | exact HKP.out _ hb3 | exact HKP2.out _ _ hb3 hT4) ((first | (go_at_call 61; refine (fresh_any (f : Int) _ _).mono ?_; rintro e w3 ⟨rfl, hi3, hb3, hs3, hs4⟩) | (obtain ⟨w4, hrun4, hM4, hT4⟩ := HST.out (ptr w2.heap.size) w3 hb3; rw [hrun4]; go_simp)))
                  have HI3 := Lib.hid hi3
                  have HB3 := Lib.hid hb3
                  have HS3 := Lib.hid hs3
                  have HS4 := Lib.hid hs4
                  have HM4 := Lib.hid hM4
                  have HT4 := Lib.hid hT4
                  clear hi3 hb3 hs3 hs4 hM4 hT4 hrun4
                  obtain ⟨g1, ib1, nb1, hA4, hg1, hK4, hib⟩ := make_mid (HA2.out.below (Below.refl _ _).drew (Nat.le_refl _)) HFN.out HI3.out HB3.out HS3.out (by first | exact HS4.out | exact fun _ => HS4.out trivial) HM4.out HT4.out
                  have hx4 : ∀ kd, aget d (aput ilt (f : Int) (freshM kd) T) = some x := fun kd => by rw [aget_aput, if_neg HFD.out]; exact HX.out
                  obtain ⟨_, _, _, _, _, _, c74, _⟩ := (hA4.item d x (hx4 _)).cell
                  have hnm4 := (hA4.item d x (hx4 _)).names HXK.out
                  unfold namesV at c74
                  rw [if_pos HXK.out, (hib d HFD.out).1] at c74
                  obtain ⟨nd, hnd⟩ : ∃ nd, nd = nb1 d := ⟨_, rfl⟩
                  rw [← hnd] at c74 hnm4
                  have HA4 := Lib.hid hA4
                  have HG1 := Lib.hid hg1
                  have HK4 := Lib.hid hK4
                  have HX4 := Lib.hid hx4
                  have HNM4 := Lib.hid hnm4
                  have HND := Lib.hid hnd
                  have HFW : Hid ((nameL x).length < maxLen) := by
                    have h1 := HT.out.few HX.out
                    have h2 : (nameL x).length < maxLen := by unfold nameL maxLen; rw [List.length_map]; omega
                    exact h2
                  clear hA4 hg1 hK4 hx4 hnm4 hnd hib
                  go_wp2_with (at_mapUpdate; refine wpList_store strK rfl _ _ _ 92 3 rfl Tryz.underlying92 rfl HNM4.out HFW.out nm (.int .i64 (f : Int)) rfl rfl hokn ?_; intro w5 hM5 hT5)
                  go_ret2
                  rw [HM.out]
                  have hA4 := HA4.out
                  have hnd := HND.out
                  have hgn : g1 nd ≠ .none := by rw [hnd, hA4.tagn d x (HX4.out _) HXK.out]; simp
                  obtain ⟨e1, e2⟩ := make_end HB2.out HG1.out HK4.out hT5 hgn
                  subst hnd
                  exact ⟨rfl, g1, D, ib1, nb1, hA4.set (HX4.out _) HXK.out hM5 hT5, e1, fun b h => .inl h, e2⟩
      · have hne : ((placeM T ls).2.2 == 0) = false := by simpa using hp
        have hne2 : ((placeM T ls).2.2 != 0) = true := by simpa using hp
        have hm : makeM T ls kind = ((0, (placeM T ls).2.2), T) := by
          have : makeE T ls kind = (placeM T ls).2.2 := by unfold makeE; rw [if_neg (by rw [HFL.out]; simp), if_neg (fun h => h hk), if_pos hp]
          unfold makeM; rw [this, if_neg hp]
        have HM := Lib.hid hm
        have HP := Lib.hid hp
        unfold RetPlace at HPL
        generalize placeM T ls = q at *
        clear hm hp
        rcases hk with rfl | rfl
        all_goals
          go_enter Tryz.func15, Tryz.ntmps15
          go_wp2_with fail
          (with_reducible refine HF.out.mono ?_)
          rintro e w1 ⟨rfl, hb1⟩
          have HB1 := Lib.hid hb1
          clear hb1
          go_wp2_with fail
          (with_reducible refine (HPL.out w1 HB1.out).mono ?_)
          rintro e w2 ⟨rfl, hb2⟩
          rw [if_neg HP.out]
          have HB2 := Lib.hid hb2
          clear hb2
          go_wp2_with fail
          go_ret2
          rw [HM.out]
          exact Turn.same HH.out (HB1.out.trans (HB2.out.mono HB1.out.size)) rfl
    · have HK := Lib.hid hk
      have e1 : (kind != 1) = true := by simp; omega
      have e2 : (kind != 2) = true := by simp; omega
      have hm : makeM T ls kind = ((0, 30), T) := by
        have : makeE T ls kind = 30 := by unfold makeE; rw [if_neg (by rw [HFL.out]; simp), if_pos HK.out]
        unfold makeM; rw [this]; simp
      have HM := Lib.hid hm
      clear hm hk
      go_enter Tryz.func15, Tryz.ntmps15
      go_wp2_with fail
      (with_reducible refine HF.out.mono ?_)
      rintro e w1 ⟨rfl, hb1⟩
      go_wp2_with fail
      go_ret2
      rw [HM.out]
      exact Turn.same HH.out hb1 rfl
  · have hm : makeM T ls kind = ((0, fineL ls), T) := by
      have : makeE T ls kind = fineL ls := by unfold makeE; rw [if_pos hf]
      unfold makeM; rw [this, if_neg hf]
    have hne : (fineL ls == 0) = false := by simpa using hf
    have hne2 : (fineL ls != 0) = true := by simpa using hf
    have HM := Lib.hid hm
    clear hm hf
    go_enter Tryz.func15, Tryz.ntmps15
    go_wp2_with fail
    (with_reducible refine HF.out.mono ?_)
    rintro e w1 ⟨rfl, hb1⟩
    go_wp2_with fail
    go_ret2
    rw [HM.out]
    exact Turn.same HH.out hb1 rfl
end Go.Proofs.YtmabllemjkcobaaGreatDoor
namespace Go.Proofs.YtmabllemjkcobaaGreatDoor
open Go.ChangeShapes Go.WideShapes Go.ChangeAt Go.RowKit
set_option linter.unusedVariables false
set_option linter.unusedSimpArgs false

section
variable {g : Nat → Own} {D : Nat → Prop} {p mb : Nat} {ib nb : Int → Nat} {T : TrM}
theorem ItemAt.frozen {w : World} {k : Int} {i n : Nat} {x : ItM} (h : ItemAt D w k i n x) (j : Nat) : w.frozen? ⟨i, j, none⟩ = false := by
  obtain ⟨⟨a, c, h1, _⟩, _⟩ := h
  simp [World.frozen?, h1]
theorem ItemAt.row {w : World} {k : Int} {i n : Nat} {x : ItM} (h : ItemAt D w k i n x) : ∃ a c, w.cell? ⟨i, 6, none⟩ = some (.slice a x.b.length c) ∧ CapOk x.b.length c ∧ RowAt D w a x.b.length (x.b.map bv) ∧ w.heap[i]? = some (.cells (itemCells k x a c n) 94 (0, 0)) := by
  obtain ⟨⟨a, c, h1, h2, h3⟩, _⟩ := h
  exact ⟨a, c, by simp only [World.cell?, h1]; rfl, h2, h3, h1⟩
/-- Fields of a node are turned. -/
theorem TreeAt.fields {w w' : World} (h : TreeAt g D w p mb ib nb T) {k : Int} {x : ItM} (hx : aget k T = some x) (f : ItM → ItM) (hb : (f x).b = x.b) (hn : (f x).names = x.names) (hk : (f x).kind = x.kind) (hK : Keeps (fun b => b = ib k) w w') (hs : w'.heap.size = w.heap.size)
    (hc : ∀ a c, w.heap[ib k]? = some (.cells (itemCells k x a c (nb k)) 94 (0, 0)) → w'.heap[ib k]? = some (.cells (itemCells k (f x) a c (nb k)) 94 (0, 0))) : TreeAt g D w' p mb ib nb (Go.Proofs.YtmabllemjkcobaaGreatDoor.amod k f T) := by
  have ti := h.tagi k x hx
  refine h.amod hx hk (fun _ h => h) (fun b hb => ⟨h.data b hb, by rw [hs]; exact h.dlow b hb⟩) (by omega) (fun b hbw h1 _ => hK.block b hbw (fun e => h1 (by rw [e]; exact ti))) ?_
  obtain ⟨⟨a, c, h1, h2, h3⟩, h4⟩ := h.item k x hx
  refine ⟨⟨a, c, hc a c h1, by rw [hb]; exact h2, by rw [hb]; exact h3.kept (by omega) fun b hD hbw => hK.block b hbw (fun e => by have := h.data b hD; rw [e, ti] at this; cases this)⟩, fun hk2 => ?_⟩
  have hk2' : x.kind = 2 := hk ▸ hk2
  have e : nameL (f x) = nameL x := by unfold nameL; rw [hn]
  rw [e]
  have tn := h.tagn k x hx hk2'
  exact (h4 hk2').kept (hK.block _ (h.low _ (by rw [tn]; simp)) (fun e => by rw [e, ti] at tn; cases tn))
theorem Keeps.set2 (w : World) (i j j' : Nat) (v v' : Value) : Keeps (fun b => b = i) w ((w.setCell ⟨i, j, none⟩ v).setCell ⟨i, j', none⟩ v') :=
  (Keeps.set_ w ⟨i, j, none⟩ v).trans (Keeps.set_ _ ⟨i, j', none⟩ v') (fun _ _ h => h)

set_option maxHeartbeats 1000000 in
theorem file_err (id : Int) (k : Int) (hk : fileE T id = k) (hk0 : k ≠ 0) (w : World) (h : TreeAt g D w p mb ib nb T) (hid : (Lit.int .i64 id).wf = true) :
    Calls Tryz.prog 174 #[ptr p, .int .i64 id] w fun e w' => e = .returned (.tuple #[.pointer none, .int .i64 k]) ∧ w = w' := by
  obtain ⟨hc0, hpw, hmw⟩ := h.cell
  have hmap := Lib.hid h.map
  have hok : intK.ok id := hid
  unfold fileE at hk
  cases hx : aget id T with
  | none =>
    rw [hx] at hk
    simp only at hk
    subst hk
    have HG : Hid (aget id (T.map fun q => (q.1, ptr (ib q.1))) = none) := by rw [aget_ptr, hx]; rfl
    clear h hx hid hk0
    go_enter Tryz.func174, Tryz.ntmps174
    go_wp2_with (at_lookup; refine wpList_look_ok intK rfl _ _ 95 88 rfl Tryz.underlying95 (Tryz.zeroItem _) rfl hmap.out id rfl hok ?_; rw [HG.out])
    go_ret2
    exact ⟨rfl, rfl⟩
  | some x =>
    rw [hx] at hk
    simp only at hk
    by_cases hk2 : x.kind = 2
    · rw [if_pos hk2] at hk
      subst hk
      have HG : Hid (aget id (T.map fun q => (q.1, ptr (ib q.1))) = some (ptr (ib id))) := by rw [aget_ptr, hx]; rfl
      obtain ⟨c0, c1, c2, c3, c4, c5, c7, hiw⟩ := (h.item id x hx).cell
      rw [hk2] at c1
      clear h hx hid hk0 c7 hk2
      go_enter Tryz.func174, Tryz.ntmps174
      go_wp2_with (at_lookup; refine wpList_look_ok intK rfl _ _ 95 88 rfl Tryz.underlying95 (Tryz.zeroItem _) rfl hmap.out id rfl hok ?_; rw [HG.out])
      go_ret2
      exact ⟨rfl, rfl⟩
    · rw [if_neg hk2] at hk
      exact absurd hk.symm hk0
set_option maxHeartbeats 1000000 in
theorem file_ok (id : Int) {x : ItM} (hx : aget id T = some x) (hk2 : x.kind ≠ 2) (w : World) (h : TreeAt g D w p mb ib nb T) (hid : (Lit.int .i64 id).wf = true) :
    Calls Tryz.prog 174 #[ptr p, .int .i64 id] w fun e w' => e = .returned (.tuple #[ptr (ib id), .int .i64 0]) ∧ w = w' := by
  obtain ⟨hc0, hpw, hmw⟩ := h.cell
  have hmap := Lib.hid h.map
  have hok : intK.ok id := hid
  have HG : Hid (aget id (T.map fun q => (q.1, ptr (ib q.1))) = some (ptr (ib id))) := by rw [aget_ptr, hx]; rfl
  obtain ⟨c0, c1, c2, c3, c4, c5, c7, hiw⟩ := (h.item id x hx).cell
  have e1 : (x.kind == 2) = false := by simpa using hk2
  clear h hx hid c7 hk2
  go_enter Tryz.func174, Tryz.ntmps174
  go_wp2_with (at_lookup; refine wpList_look_ok intK rfl _ _ 95 88 rfl Tryz.underlying95 (Tryz.zeroItem _) rfl hmap.out id rfl hok ?_; rw [HG.out])
  go_ret2
  exact ⟨rfl, rfl⟩

/-- A node as a value. -/
def nodeV (k : Int) (x : ItM) : Value := .agg #[.int .i64 k, .int .i64 x.kind, .int .i64 x.links, .int .i64 x.b.length, .int .u64 x.til, .bool x.closed]
def nodeM (T : TrM) (id : Int) : Value := match aget id T with
  | some x => nodeV id x
  | none => .agg #[.int .i64 0, .int .i64 0, .int .i64 0, .int .i64 0, .int .u64 0, .bool false]
set_option maxHeartbeats 1000000 in
theorem node_any (id : Int) (w : World) (h : TreeAt g D w p mb ib nb T) (hid : (Lit.int .i64 id).wf = true) :
    Calls Tryz.prog 98 #[ptr p, .int .i64 id] w fun e w' => e = .returned (.tuple #[nodeM T id, .bool (aget id T).isSome]) ∧ Below w.heap.size w w' := by
  obtain ⟨hc0, hpw, hmw⟩ := h.cell
  have hok : intK.ok id := hid
  have hmap1 : ∀ o, MapAt intK (w.alloc o) mb (T.map fun q => (q.1, ptr (ib q.1))) := fun o => h.map.kept ((wall w o).block mb hmw)
  have hmap := Lib.hid hmap1
  unfold nodeM
  cases hx : aget id T with
  | none =>
    have HG : Hid (aget id (T.map fun q => (q.1, ptr (ib q.1))) = none) := by rw [aget_ptr, hx]; rfl
    clear h hx hid hmap1
    go_enter Tryz.func98, Tryz.ntmps98
    go_wp2_with (at_lookup; refine wpList_look_ok intK rfl _ _ 95 88 rfl Tryz.underlying95 (Tryz.zeroItem _) rfl (hmap.out _) id rfl hok ?_; rw [HG.out])
    exact bodyPost_ret (v := .tuple #[.agg #[.int .i64 0, .int .i64 0, .int .i64 0, .int .i64 0, .int .u64 0, .bool false], .bool false]) (by simp [results, Tryz.results98, go_sem]) rfl ⟨rfl, wall w _⟩
  | some x =>
    have HG : Hid (aget id (T.map fun q => (q.1, ptr (ib q.1))) = some (ptr (ib id))) := by rw [aget_ptr, hx]; rfl
    obtain ⟨c0, c1, c2, c3, c4, c5, c7, hiw⟩ := (h.item id x hx).cell
    clear h hx hid c7 hmap1
    unfold nodeV
    go_enter Tryz.func98, Tryz.ntmps98
    go_wp2_with (at_lookup; refine wpList_look_ok intK rfl _ _ 95 88 rfl Tryz.underlying95 (Tryz.zeroItem _) rfl (hmap.out _) id rfl hok ?_; rw [HG.out])
    exact bodyPost_ret (v := .tuple #[.agg #[.int .i64 id, .int .i64 x.kind, .int .i64 x.links, .int .i64 x.b.length, .int .u64 x.til, .bool x.closed], .bool true]) (by simp [results, Tryz.results98, go_sem]) rfl ⟨rfl, wall w _⟩
end
end Go.Proofs.YtmabllemjkcobaaGreatDoor
namespace Go.Proofs.YtmabllemjkcobaaGreatDoor
open Go.ChangeShapes Go.WideShapes Go.ChangeAt Go.RowKit
set_option linter.unusedVariables false
set_option linter.unusedSimpArgs false

section
variable {g : Nat → Own} {D : Nat → Prop} {p mb : Nat} {ib nb : Int → Nat} {T : TrM}
theorem MapAt.drop_run {P : Program} {K : TypeId} {κ : Type} [DecidableEq κ] {F : KeyFor P K κ} {w : World} {t e : TypeId} (ht : P.underlying t = some (.map K e)) {b : Nat} {l : List (κ × Value)} (hM : MapAt F w b l) (k : κ) (hok : F.ok k) :
    ∃ w', (∀ ty, (Builtin.delete_ #[t, K] ty #[.map (some b), F.val k]).run P w = .ok (.tuple #[]) w') ∧ MapAt F w' b (adel k l) ∧ w.mapTurned w' b := by
  obtain ⟨w', hrun, r1, r2⟩ := World.ownsMap.drop hM F.law ht (F.of k hok) 0
  rw [toD_del] at r1
  exact ⟨w', fun ty => hrun, MapAt.of_owns r1, r2⟩

/-- What settle leaves. -/
def Settled (g : Nat → Own) (D : Nat → Prop) (w : World) (p mb : Nat) (ib nb : Int → Nat) (T' : TrM) (e : Ending) (w' : World) : Prop :=
  e = .returned (.tuple #[]) ∧ TreeAt g D w' p mb ib nb T' ∧ Keeps (fun b => b = mb) w w' ∧ w'.heap.size = w.heap.size
set_option maxRecDepth 100000 in
set_option maxHeartbeats 2000000 in
theorem settle_any (id : Int) {x : ItM} (hx : aget id T = some x) (hid : (Lit.int .i64 id).wf = true) (w : World) (h : TreeAt g D w p mb ib nb T) :
    Calls Tryz.prog 175 #[ptr p, ptr (ib id)] w (Settled g D w p mb ib nb (settleM T id)) := by
  obtain ⟨hc0, hpw, hmw⟩ := h.cell
  obtain ⟨c0, c1, c2, c3, c4, c5, c7, hiw⟩ := (h.item id x hx).cell
  have HH := Lib.hid h
  have hs : settleM T id = if x.links = 0 ∧ x.closed = true then adel id T else T := by unfold settleM; rw [hx]
  have HS := Lib.hid hs
  have HX := Lib.hid hx
  clear hs hx h c7
  by_cases h0 : x.links = 0
  · have e0 : (x.links == 0) = true := by simpa using h0
    rw [h0] at c2
    cases hcl : x.closed with
    | true =>
      rw [hcl] at c5
      have HF : Hid (settleM T id = adel id T) := HS.out.trans (if_pos ⟨h0, hcl⟩)
      have hst : ∃ w4, (∀ ty, (Builtin.delete_ #[95, 3] ty #[.map (some mb), .int .i64 id]).run Tryz.prog w.drew = .ok (.tuple #[]) w4) ∧ MapAt intK w4 mb (adel id (T.map fun q => (q.1, ptr (ib q.1)))) ∧ w.drew.mapTurned w4 mb :=
        MapAt.drop_run (F := intK) Tryz.underlying95 (HH.out.map.kept (w' := w.drew) rfl) id hid
      have HST := Lib.hid hst
      have hne1 : p ≠ mb := fun e => by have h1 := HH.out.tagp; rw [e, HH.out.tagm] at h1; cases h1
      have hne2 : ib id ≠ mb := fun e => by have h1 := HH.out.tagi id x HX.out; rw [e, HH.out.tagm] at h1; cases h1
      have HKP : Hid (∀ w4, w.drew.mapTurned w4 mb → w4.cell? ⟨p, 0, none⟩ = some (.map (some mb)) ∧ w4.cell? ⟨ib id, 0, none⟩ = some (.int .i64 id)) := fun w4 hT => ⟨(World.cell?_of_block (w := w.drew) (w' := w4) (a := ⟨p, 0, none⟩) (turned_below hT p hpw hne1)).trans hc0, (World.cell?_of_block (w := w.drew) (w' := w4) (a := ⟨ib id, 0, none⟩) (turned_below hT _ hiw hne2)).trans c0⟩
      clear hst HS h0 hcl e0 hne1 hne2
      go_enter Tryz.func175, Tryz.ntmps175
      go_wp2
      go_region_held3 (fun w' => w'.cell? ⟨p, 0, none⟩ = some (.map (some mb)) ∧ w'.cell? ⟨ib id, 0, none⟩ = some (.int .i64 id)) (first | exact ⟨hc0, c0⟩ | exact HKP.out _ hT4) ((first | (obtain ⟨w4, hrun4, hM4, hT4⟩ := HST.out; rw [hrun4]; go_simp)))
      have hsz := turned_size hT4
      have hK := turned_keeps hT4
      go_end0
      refine ⟨rfl, ?_, ⟨hK.os, hK.tape, hK.output, hK.size, hK.block⟩, hsz⟩
      rw [HF.out]
      exact (HH.out.below (Below.refl _ _).drew (Nat.le_refl _)).del hM4 hK.size (fun b hb hbm => hK.block b hb hbm)
    | false =>
      rw [hcl] at c5
      have HF : Hid (settleM T id = T) := HS.out.trans (if_neg (fun h => by rw [hcl] at h; cases h.2))
      clear HS h0 hcl e0
      go_enter Tryz.func175, Tryz.ntmps175
      go_wp2
      go_end0
      exact ⟨rfl, by rw [HF.out]; exact HH.out, Keeps.refl _ _, rfl⟩
  · have e0 : (x.links == 0) = false := by simpa using h0
    have HF : Hid (settleM T id = T) := HS.out.trans (if_neg (fun h => h0 h.1))
    clear HS h0
    go_enter Tryz.func175, Tryz.ntmps175
    go_wp2
    go_end0
    exact ⟨rfl, by rw [HF.out]; exact HH.out, Keeps.refl _ _, rfl⟩
end
end Go.Proofs.YtmabllemjkcobaaGreatDoor
