/- tree: New; Drop refused. tree: Link. A law's own tree, beside what else is the law's. -/
import Derived.Test.YtmabllemjkcobaaGreatDoorM12
namespace Go.Proofs.YtmabllemjkcobaaGreatDoor
open Go.ChangeShapes Go.WideShapes Go.ChangeAt Go.RowKit
set_option linter.unusedVariables false
set_option linter.unusedSimpArgs false

/-- The block of a new tree's head, its map, its first item. -/
def newG (B b : Nat) : Own := if b = B then .items else if b = B + 1 then .item 0 else if b = B + 2 then .names 0 else .none
theorem new_mid {w w1 w2 : World} (hi : ItemAt (fun _ => False) w1 0 (w.heap.size + 1) (w.heap.size + 1 + 1) (freshM 2)) (hb : Below (w.heap.size + 1) (w.alloc (.map #[] 0)) w1) (hs : w.heap.size + 1 + 1 < w1.heap.size)
    (hM : MapAt intK w2 w.heap.size (aput intK.lt 0 (ptr (w.heap.size + 1)) [])) (hT : w1.mapTurned w2 w.heap.size) :
    TreeAt (fun b => if b = w2.heap.size then .head else newG w.heap.size b) (fun _ => False) (w2.alloc (.cells #[.map (some w.heap.size)] 97)) w2.heap.size w.heap.size (fun _ => w.heap.size + 1) (fun _ => w.heap.size + 2) newM ∧ Below w.heap.size w (w2.alloc (.cells #[.map (some w.heap.size)] 97)) := by
  have hsz := turned_size hT
  have hK := turned_keeps hT
  have hw3 : ∀ b, b < w2.heap.size → (w2.alloc (.cells #[.map (some w.heap.size)] 97)).heap[b]? = w2.heap[b]? := fun b hb => Below.heap_alloc _ _ _ hb
  have hget : ∀ k x, aget k newM = some x → k = 0 ∧ x = freshM 2 := fun k x h => by
    unfold newM at h
    rw [aget_cons] at h
    by_cases hk : (0 : Int) = k
    · rw [if_pos hk] at h; exact ⟨hk.symm, by cases h; rfl⟩
    · rw [if_neg hk] at h; cases h
  have hB0 : Below w.heap.size w (w.alloc (.map #[] 0)) := wall w _
  constructor
  · refine ⟨(MapKept.heap_alloc w2 _).1, ?_, fun k x hx => ?_, by simp, ?_, fun k x hx => ?_, fun k x hx _ => ?_, fun _ h => h.elim, fun b hb => ?_, fun _ h => h.elim⟩
    · have := hM.kept (hw3 _ (by omega))
      exact this
    · obtain ⟨rfl, rfl⟩ := hget k x hx
      refine hi.move (by simp; omega) ?_ (fun _ => ?_) (fun _ h => h.elim)
      · rw [hw3 _ (by omega), hK.block _ (by omega) (by omega)]
      · rw [hw3 _ (by omega), hK.block _ (by omega) (by omega)]
    · rw [if_neg (by omega)]; simp [newG]
    · obtain ⟨rfl, rfl⟩ := hget k x hx
      rw [if_neg (by omega)]; simp [newG]
    · obtain ⟨rfl, rfl⟩ := hget k x hx
      rw [if_neg (by omega)]; simp [newG]
    · rw [World.size_alloc]
      by_cases h1 : b = w2.heap.size
      · omega
      · rw [if_neg h1] at hb
        unfold newG at hb
        by_cases h2 : b = w.heap.size
        · omega
        · by_cases h3 : b = w.heap.size + 1
          · omega
          · by_cases h4 : b = w.heap.size + 2
            · omega
            · simp [h2, h3, h4] at hb
  · refine (hB0.trans (hb.mono (by omega))).trans ⟨hK.os, hK.tape, hK.output, by rw [World.size_alloc]; omega, fun b hbw => ?_⟩
    have := hb.size
    rw [World.size_alloc] at this
    rw [hw3 _ (by omega), hK.block _ (by omega) (by omega)]
set_option maxHeartbeats 1000000 in
theorem new_any (w : World) : Calls Tryz.prog 32 #[] w fun e w' => ∃ g mb ib nb p, e = .returned (ptr p) ∧ TreeAt g (fun _ => False) w' p mb ib nb newM ∧ (∀ b, g b ≠ .none → w.heap.size ≤ b) ∧ Below w.heap.size w w' := by
  have hmm := @run_makeMap Tryz.prog
  have HST : Hid (∀ w1, Below (w.heap.size + 1) (w.alloc (.map #[] 0)) w1 → ∃ w2, (Instr.mapUpdate 95 (.map (some w.heap.size)) (.int .i64 0) (ptr (w.heap.size + 1))).run Tryz.prog w1 = .ok () w2 ∧ MapAt intK w2 w.heap.size (aput intK.lt 0 (ptr (w.heap.size + 1)) []) ∧ w1.mapTurned w2 w.heap.size) := fun w1 hb => by
    have hm1 : MapAt intK w1 w.heap.size [] := (MapAt.made (F := intK) w).kept (hb.block _ (by omega))
    exact hm1.store_run intK Tryz.underlying95 (by show 0 < maxLen; unfold maxLen; omega) 0 _ (okInt (by omega) (by omega))
  go_enter Tryz.func32, Tryz.ntmps32
  go_wp2_with fail
  (with_reducible refine (fresh_any _ _ _).mono ?_)
  rintro e w1 ⟨rfl, hi1, hb1, hs1, hs2⟩
  rw [World.size_alloc] at hi1 hb1 hs1 hs2
  obtain ⟨w2, hrun2, hM2, hT2⟩ := HST.out w1 hb1
  have HI1 := Lib.hid hi1
  have HB1 := Lib.hid hb1
  have HM2 := Lib.hid hM2
  have HT2 := Lib.hid hT2
  have hs3 := hs2 rfl
  clear hi1 hb1 hM2 hT2 hs2
  go_wp2_with fail
  go_ret
  obtain ⟨h1, h2⟩ := new_mid HI1.out HB1.out hs3 HM2.out HT2.out
  refine ⟨_, _, _, _, _, rfl, h1, fun b hb => ?_, h2⟩
  have h3 := HB1.out.size
  rw [World.size_alloc] at h3
  have h4 := turned_size HT2.out
  by_cases e1 : b = w2.heap.size
  · omega
  · rw [if_neg e1] at hb
    unfold newG at hb
    by_cases e2 : b = w.heap.size
    · omega
    · by_cases e3 : b = w.heap.size + 1
      · omega
      · by_cases e4 : b = w.heap.size + 2
        · omega
        · simp [e2, e3, e4] at hb
theorem newM_ok : OkM newM := by
  have hget : ∀ k x, aget k newM = some x → k = 0 ∧ x = freshM 2 := fun k x h => by
    unfold newM at h
    rw [aget_cons] at h
    by_cases hk : (0 : Int) = k
    · rw [if_pos hk] at h; exact ⟨hk.symm, by cases h; rfl⟩
    · rw [if_neg hk] at h; cases h
  refine ⟨⟨by simp [newM, ASorted], rfl, fun k x hx => ?_, fun k x hx e he => ?_, by simp [newM], fun k x hx => ?_⟩, fun k x hx hk => ?_⟩
  · obtain ⟨rfl, rfl⟩ := hget k x hx; exact ok1_fresh (.inr rfl)
  · obtain ⟨rfl, rfl⟩ := hget k x hx; cases he
  · obtain ⟨rfl, rfl⟩ := hget k x hx; omega
  · exact absurd (hget k x hx).1 hk

section
variable {g : Nat → Own} {D : Nat → Prop} {p mb : Nat} {ib nb : Int → Nat} {T : TrM}
set_option maxHeartbeats 1000000 in
/-- Drop that is refused. -/
theorem drop_err (id : Int) (hd : dropE T id ≠ 0) (w : World) (h : TreeAt g D w p mb ib nb T) (hid : (Lit.int .i64 id).wf = true) :
    Calls Tryz.prog 117 #[ptr p, .int .i64 id] w (Turn g D w p mb (dropM T id).2 (.int .i64 (dropM T id).1)) := by
  have HH := Lib.hid h
  have hcb : (w.alloc (.cells #[.int .i64 id] 3)).cell? ⟨w.heap.size, 0, none⟩ = some (.int .i64 id) := slice_cell
  have hA := h.below (wall w (.cells #[.int .i64 id] 3)) (Nat.le_refl _)
  by_cases hf : fileE T id = 0
  · obtain ⟨x, hx, hk⟩ := fileE_zero hf
    have HF := Lib.hid (file_ok id hx hk _ hA hid)
    obtain ⟨c0, c1, c2, c3, c4, c5, c7, hiw⟩ := (h.item id x hx).cell
    have hE : dropE T id = if x.closed then 27 else 0 := by unfold dropE; rw [hx]; simp only [if_neg hk]
    cases hcl : x.closed with
    | false => exact absurd (by rw [hE, hcl]; rfl) hd
    | true =>
      have HM : Hid (dropM T id = (27, T)) := by
        unfold dropM
        rw [hE, hcl]; simp only [if_pos]; exact rfl
      rw [hcl] at c5
      clear hE hcl hx hk hf h c7 hA hd
      go_enter Tryz.func117, Tryz.ntmps117
      go_wp2_with fail
      (with_reducible refine HF.out.mono ?_)
      rintro e w1 ⟨rfl, rfl⟩
      go_wp2_with fail
      go_ret
      rw [HM.out]
      exact Turn.same HH.out (wall w _) rfl
  · have hne : (fileE T id == 0) = false := by simpa using hf
    have HF := Lib.hid (file_err id _ rfl hf _ hA hid)
    have HM : Hid (dropM T id = (fileE T id, T)) := by
      unfold dropM
      rw [dropE_err hf, if_neg hf]; exact rfl
    obtain ⟨k, hk⟩ : ∃ k, k = fileE T id := ⟨_, rfl⟩
    rw [← hk] at HF hne HM
    clear hf h hk hA hd
    go_enter Tryz.func117, Tryz.ntmps117
    go_wp2_with fail
    (with_reducible refine HF.out.mono ?_)
    rintro e w1 ⟨rfl, rfl⟩
    go_wp2_with fail
    go_ret
    rw [HM.out]
    exact Turn.same HH.out (wall w _) rfl
end
end Go.Proofs.YtmabllemjkcobaaGreatDoor
namespace Go.Proofs.YtmabllemjkcobaaGreatDoor
open Go.ChangeShapes Go.WideShapes Go.ChangeAt Go.RowKit
set_option linter.unusedVariables false
set_option linter.unusedSimpArgs false

section
variable {g : Nat → Own} {D : Nat → Prop} {p mb : Nat} {ib nb : Int → Nat} {T : TrM}
theorem kindM_of {id : Int} {x : ItM} (hx : aget id T = some x) : kindM T id = x.kind := by unfold kindM; rw [hx]
/-- A name more of a node. -/
theorem OkM.link (h : OkM T) {d id : Int} {x y : ItM} {n : Nm} (hx : aget d T = some x) (hxk : x.kind = 2) (hn : goodL n = true) (hnn : aget n x.names = none) (hy : aget id T = some y) (hyk : y.kind ≠ 2) (hl : y.links < 64) (h0 : id ≠ 0) :
    OkM (Go.Proofs.YtmabllemjkcobaaGreatDoor.amod id (fun x => { x with links := x.links + 1 }) (setName T d n id)) := by
  have hdi : id ≠ d := fun e => by subst e; rw [hx] at hy; cases hy; exact hyk hxk
  have hP := h.toOkP.set (n := n) (id := id) hx hxk hn ⟨by rw [hy]; rfl, h0⟩
  have hy1 : aget id (setName T d n id) = some y := by unfold setName; rw [aget_amod, if_neg hdi]; exact hy
  have hoy := h.each id y hy
  have hk1 : y.kind = 1 := hoy.kind.resolve_right hyk
  have hsame : cn id { y with links := y.links + 1 } = cn id y := rfl
  refine ⟨hP.amod (f := fun x => { x with links := x.links + 1 }) hy1 ⟨hoy.kind, hoy.file, fun h => absurd h hyk, fun h => ?_, hoy.sorted, hoy.good, hoy.size, ?_, hoy.til⟩ rfl (hP.leads id y hy1), fun j z hz hj => ?_⟩
  · have := hoy.links
    have h2 : y.links + 1 = 0 := h
    omega
  · have := hoy.links
    simp only
    omega
  · have h1 := cntM_amod hP.sorted (fun x => { x with links := x.links + 1 }) hy1 j
    have h1' : cn j { y with links := y.links + 1 } = cn j y := rfl
    have h2 := cntM_amod h.sorted (fun x => { x with names := aput bytesBefore n id x.names }) hx j
    have h3 := cn_set (id := id) hnn j
    have e : cntM (Go.Proofs.YtmabllemjkcobaaGreatDoor.amod id (fun x => { x with links := x.links + 1 }) (setName T d n id)) j = cntM T j + if id = j then 1 else 0 := by
      unfold setName at h1 ⊢
      rw [h1'] at h1
      omega
    rw [e]
    rw [aget_amod] at hz
    by_cases hji : j = id
    · subst hji
      rw [if_pos rfl, hy1] at hz
      simp only [Option.map_some, Option.some.injEq] at hz
      rw [← hz, if_pos rfl]
      have := h.counts j y hy hj
      simp only
      omega
    · rw [if_neg hji] at hz
      rw [if_neg (Ne.symm hji)]
      unfold setName at hz
      rw [aget_amod] at hz
      by_cases hjd : j = d
      · subst hjd
        rw [if_pos rfl, hx] at hz
        simp only [Option.map_some, Option.some.injEq] at hz
        have := h.counts j x hx hj
        rw [← hz]
        simp only
        omega
      · rw [if_neg hjd] at hz
        have := h.counts j z hz hj
        omega
theorem lookM_zero {p : List Nm} {id : Int} (h : lookM T 0 p = (id, 0)) (hT : OkM T) : (aget id T).isSome = true := by
  have := lookM_there hT p 0 (root_there hT) (by rw [h])
  rw [h] at this
  exact this

set_option maxRecDepth 100000 in
set_option maxHeartbeats 8000000 in
theorem link_at {S S' : Nat → Prop} (a : Option Addr) (n c : Nat) (ls : List Nm) (a' : Option Addr) (n' c' : Nat) (ls' : List Nm) (w : World) (h : TreeAt g D w p mb ib nb T) (hT : OkM T) (hS : StrsAt S w a n (ls.map strOf)) (hS' : StrsAt S' w a' n' (ls'.map strOf)) (hc' : n' ≤ c') (hn8 : n' ≤ 1000000) :
    Calls Tryz.prog 43 #[ptr p, .slice a n c, .slice a' n' c'] w (Turn g D w p mb (linkM T ls ls').2 (.int .i64 (linkM T ls ls').1)) := by
  have HH := Lib.hid h
  have HT := Lib.hid hT
  have HF := Lib.hid (fine2_at a n c ls a' n' c' ls' w hS hS')
  have HLK := Lib.hid (fun w1 (hb : Below w.heap.size w w1) => look_any a n c ls w1 (h.below hb (Nat.le_refl _)) hT (hS.below hb (Nat.le_refl _)))
  have HPL := Lib.hid (fun w1 (hb : Below w.heap.size w w1) => place_any a' n' c' ls' w1 (h.below hb (Nat.le_refl _)) hT (hS'.below hb (Nat.le_refl _)) hc' hn8)
  clear h hT hS hS'
  by_cases hf : fine2 ls ls' = 0
  · have HFL := Lib.hid hf
    rw [hf] at HF
    clear hf
    obtain ⟨⟨id, e0⟩, hq⟩ : ∃ q, q = lookM T 0 ls := ⟨_, rfl⟩
    have HQ := Lib.hid hq
    rw [← hq] at HLK
    clear hq
    by_cases he : e0 = 0
    · subst he
      obtain ⟨y, hy⟩ := Option.isSome_iff_exists.1 (lookM_zero HQ.out.symm HT.out)
      have HY := Lib.hid hy
      have hids := HT.out.ids id y hy
      have hok : intK.ok id := okInt hids.1 (by omega)
      have HG : Hid (aget id (T.map fun q => (q.1, ptr (ib q.1))) = some (ptr (ib id))) := by rw [aget_ptr, hy]; rfl
      have HIT : Hid (∀ w1, Below w.heap.size w w1 → w1.cell? ⟨p, 0, none⟩ = some (.map (some mb)) ∧ MapAt intK w1 mb (T.map fun q => (q.1, ptr (ib q.1))) ∧ w1.cell? ⟨ib id, 1, none⟩ = some (.int .i64 y.kind) ∧ w1.cell? ⟨ib id, 2, none⟩ = some (.int .i64 y.links)) := fun w1 hb => by
        have h2 := HH.out.below hb (Nat.le_refl _)
        obtain ⟨_, c1, c2, _⟩ := (h2.item id y HY.out).cell
        exact ⟨h2.cell.1, h2.map, c1, c2⟩
      clear hy
      by_cases hk : y.kind = 2
      · have HM : Hid (linkM T ls ls' = (22, T)) := by
          have : linkE T ls ls' = 22 := by
            unfold linkE
            rw [if_neg (by rw [HFL.out]; simp), ← HQ.out, if_neg (by simp), if_pos ((kindM_of HY.out).trans hk)]
          unfold linkM; rw [this, if_neg (by decide)]; exact rfl
        go_enter Tryz.func43, Tryz.ntmps43
        go_wp2_with fail
        (with_reducible refine HF.out.mono ?_)
        rintro e w1 ⟨rfl, hb1⟩
        have HB1 := Lib.hid hb1
        clear hb1
        go_wp2_with fail
        (with_reducible refine (HLK.out w1 HB1.out).mono ?_)
        rintro e w2 ⟨rfl, rfl⟩
        obtain ⟨c0, hmap, c1, c2⟩ := HIT.out w1 HB1.out
        rw [hk] at c1
        have HMAP := Lib.hid hmap
        clear hmap
        go_wp2_with (first | (at_lookup; refine wpList_look intK rfl _ _ 95 88 rfl Tryz.underlying95 (Tryz.zeroItem _) rfl HMAP.out id rfl hok ?_; rw [HG.out]))
        go_ret
        rw [HM.out]
        exact Turn.same HH.out HB1.out rfl
      · have hkk : (y.kind == 2) = false := by simpa using hk
        by_cases hp : (placeM T ls').2.2 = 0
        · obtain ⟨x, hx, hxk, hnm⟩ := placeM_spec HT.out hp
          have hgn : goodL (placeM T ls').2.1 = true := by
            have : fineL ls' = 0 := by
              have := HFL.out
              unfold fine2 at this
              split at this
              · rename_i h1; exact absurd this h1
              · exact this
            exact fineL_good this _ hnm
          obtain ⟨⟨d, nm, z⟩, hq⟩ : ∃ q, q = placeM T ls' := ⟨_, rfl⟩
          unfold RetPlace at HPL
          rw [← hq] at hp hx hnm hgn HPL
          obtain rfl : z = 0 := hp
          have HQP := Lib.hid hq
          have HX := Lib.hid hx
          have HGN := Lib.hid hgn
          have HXK := Lib.hid hxk
          have HYK := Lib.hid hk
          clear hq hx hgn hxk hnm hk
          have hokn : strK.ok nm := by
            have := good_len nm HGN.out
            show nm.length ≤ maxLen
            unfold maxLen; omega
          have HME : Hid (linkE T ls ls' = if (aget nm x.names).isSome then 21 else if 64 ≤ y.links then 4 else 0) := by
            have e1 : namesM T d = x.names := by unfold namesM; rw [HX.out]
            have e2 : linksM T id = y.links := by unfold linksM; rw [HY.out]
            unfold linkE
            rw [if_neg (by rw [HFL.out]; simp), ← HQ.out, if_neg (by simp), if_neg (by rw [kindM_of HY.out]; exact HYK.out), ← HQP.out, if_neg (by simp), e1, e2]
            exact rfl
          have HCELL : Hid (∀ w2, Below w.heap.size w w2 → w2.cell? ⟨ib d, 7, none⟩ = some (.map (some (nb d))) ∧ MapAt strK w2 (nb d) (nameL x)) := fun w2 hb => by
            have h2 := HH.out.below hb (Nat.le_refl _)
            have hi := h2.item d x HX.out
            obtain ⟨_, _, _, _, _, _, c7, _⟩ := hi.cell
            unfold namesV at c7
            rw [if_pos HXK.out] at c7
            exact ⟨c7, hi.names HXK.out⟩
          cases hj : aget nm x.names with
          | some j =>
            have HGJ : Hid (aget nm (nameL x) = some (.int .i64 j)) := by rw [aget_nameL, hj]; rfl
            have HM : Hid (linkM T ls ls' = (21, T)) := by
              unfold linkM; rw [HME.out, hj]; simp only [Option.isSome_some, if_true]; exact rfl
            clear hj
            go_enter Tryz.func43, Tryz.ntmps43
            go_wp2_with fail
            (with_reducible refine HF.out.mono ?_)
            rintro e w1 ⟨rfl, hb1⟩
            have HB1 := Lib.hid hb1
            clear hb1
            go_wp2_with fail
            (with_reducible refine (HLK.out w1 HB1.out).mono ?_)
            rintro e w2 ⟨rfl, rfl⟩
            obtain ⟨c0, hmap, c1, c2⟩ := HIT.out w1 HB1.out
            have HMAP := Lib.hid hmap
            clear hmap
            go_wp2_with (first | (at_lookup; refine wpList_look intK rfl _ _ 95 88 rfl Tryz.underlying95 (Tryz.zeroItem _) rfl HMAP.out id rfl hok ?_; rw [HG.out]))
            (with_reducible refine (HPL.out w1 HB1.out).mono ?_)
            rintro e w2 ⟨rfl, hb2⟩
            (first | rw [if_pos rfl] | rw [if_pos trivial])
            have HB2 := Lib.hid (HB1.out.trans (hb2.mono HB1.out.size))
            clear hb2
            obtain ⟨d7, hnames⟩ := HCELL.out w2 HB2.out
            have HNM := Lib.hid hnames
            clear hnames
            go_wp2_with (at_lookup; refine wpList_look_ok strK rfl _ _ 92 3 rfl Tryz.underlying92 (Tryz.zeroInt _) rfl HNM.out nm rfl hokn ?_; rw [HGJ.out])
            go_ret
            rw [HM.out]
            exact Turn.same HH.out HB2.out rfl
          | none =>
            have HGJ : Hid (aget nm (nameL x) = none) := by rw [aget_nameL, hj]; rfl
            have HJ := Lib.hid hj
            clear hj
            by_cases h64 : 64 ≤ y.links
            · have HM : Hid (linkM T ls ls' = (4, T)) := by
                unfold linkM; rw [HME.out, HJ.out]; simp only [Option.isSome_none, Bool.false_eq_true, if_false, if_pos h64]; first | exact rfl | exact trivial
              have hd : decide ((64 : Int) ≤ y.links) = true := by simpa using h64
              go_enter Tryz.func43, Tryz.ntmps43
              go_wp2_with fail
              (with_reducible refine HF.out.mono ?_)
              rintro e w1 ⟨rfl, hb1⟩
              have HB1 := Lib.hid hb1
              clear hb1
              go_wp2_with fail
              (with_reducible refine (HLK.out w1 HB1.out).mono ?_)
              rintro e w2 ⟨rfl, rfl⟩
              obtain ⟨c0, hmap, c1, c2⟩ := HIT.out w1 HB1.out
              have HMAP := Lib.hid hmap
              clear hmap
              go_wp2_with (first | (at_lookup; refine wpList_look intK rfl _ _ 95 88 rfl Tryz.underlying95 (Tryz.zeroItem _) rfl HMAP.out id rfl hok ?_; rw [HG.out]))
              (with_reducible refine (HPL.out w1 HB1.out).mono ?_)
              rintro e w2 ⟨rfl, hb2⟩
              (first | rw [if_pos rfl] | rw [if_pos trivial])
              have HB2 := Lib.hid (HB1.out.trans (hb2.mono HB1.out.size))
              clear hb2
              obtain ⟨d7, hnames⟩ := HCELL.out w2 HB2.out
              obtain ⟨_, _, _, f2⟩ := HIT.out w2 HB2.out
              have HNM := Lib.hid hnames
              clear hnames
              go_wp2_with (at_lookup; refine wpList_look_ok strK rfl _ _ 92 3 rfl Tryz.underlying92 (Tryz.zeroInt _) rfl HNM.out nm rfl hokn ?_; rw [HGJ.out])
              go_ret
              rw [HM.out]
              exact Turn.same HH.out HB2.out rfl
            · have HM : Hid (linkM T ls ls' = (0, amod id (fun x => { x with links := x.links + 1 }) (setName T d nm id))) := by
                unfold linkM linkOk; rw [HME.out, HJ.out, ← HQP.out, ← HQ.out]; simp only [Option.isSome_none, Bool.false_eq_true, if_false, if_neg h64, if_pos]; first | exact rfl | exact trivial
              have hd : decide ((64 : Int) ≤ y.links) = false := by simpa using h64
              have hln := (HT.out.each id y HY.out).links
              have hdi : id ≠ d := fun e => by have h1 := HX.out; rw [← e, HY.out] at h1; cases h1; exact HYK.out HXK.out
              have HDI := Lib.hid hdi
              have hfew : (nameL x).length < maxLen := by
                have h1 := HT.out.few HX.out
                unfold nameL maxLen; rw [List.length_map]; omega
              have HFW := Lib.hid hfew
              clear hdi hfew
              go_enter Tryz.func43, Tryz.ntmps43
              go_wp2_with fail
              (with_reducible refine HF.out.mono ?_)
              rintro e w1 ⟨rfl, hb1⟩
              have HB1 := Lib.hid hb1
              clear hb1
              go_wp2_with fail
              (with_reducible refine (HLK.out w1 HB1.out).mono ?_)
              rintro e w2 ⟨rfl, rfl⟩
              obtain ⟨c0, hmap, c1, c2⟩ := HIT.out w1 HB1.out
              have HMAP := Lib.hid hmap
              clear hmap
              go_wp2_with (first | (at_lookup; refine wpList_look intK rfl _ _ 95 88 rfl Tryz.underlying95 (Tryz.zeroItem _) rfl HMAP.out id rfl hok ?_; rw [HG.out]))
              (with_reducible refine (HPL.out w1 HB1.out).mono ?_)
              rintro e w2 ⟨rfl, hb2⟩
              (first | rw [if_pos rfl] | rw [if_pos trivial])
              have HB2 := Lib.hid (HB1.out.trans (hb2.mono HB1.out.size))
              clear hb2
              obtain ⟨d7, hnames⟩ := HCELL.out w2 HB2.out
              obtain ⟨_, _, _, f2⟩ := HIT.out w2 HB2.out
              have HNM := Lib.hid hnames
              have HA2 := Lib.hid (HH.out.below HB2.out (Nat.le_refl _))
              have HSET : Hid (∀ w3, MapAt strK w3 (nb d) (aput strK.lt nm (.int .i64 id) (nameL x)) → w2.mapTurned w3 (nb d) → TreeAt g D w3 p mb ib nb (setName T d nm id) ∧ w3.cell? ⟨ib id, 2, none⟩ = some (.int .i64 y.links) ∧ w3.frozen? ⟨ib id, 2, none⟩ = false ∧ aget id (setName T d nm id) = some y) := fun w3 hM hTu => by
                have h3 := HA2.out.set (id := id) HX.out HXK.out hM hTu
                have hy3 : aget id (setName T d nm id) = some y := by unfold setName; rw [aget_amod, if_neg HDI.out]; exact HY.out
                exact ⟨h3, (h3.item id y hy3).cell.2.2.1, (h3.item id y hy3).frozen 2, hy3⟩
              clear hnames
              go_wp2_with (first | (at_lookup; refine wpList_look_ok strK rfl _ _ 92 3 rfl Tryz.underlying92 (Tryz.zeroInt _) rfl HNM.out nm rfl hokn ?_; rw [HGJ.out]) | (at_mapUpdate; refine wpList_store strK rfl _ _ _ 92 3 rfl Tryz.underlying92 rfl HNM.out HFW.out nm (.int .i64 id) rfl rfl hokn ?_; intro w5 hM5 hT5; obtain ⟨hA5, g2, gf2, hy5⟩ := HSET.out w5 hM5 hT5; have HA5 := Lib.hid hA5; have HY5 := Lib.hid hy5; have HT5 := Lib.hid hT5; clear hA5 hM5 hT5 hy5))
              go_ret
              rw [HM.out]
              have hA5 := HA5.out
              have hgi := HH.out.tagi id y HY.out
              have hgd := HH.out.tagn d x HX.out HXK.out
              refine Turn.of rfl (hA5.fields HY5.out (fun x => { x with links := x.links + 1 }) rfl rfl rfl (Keeps.set_ w5 ⟨ib id, 2, none⟩ _) (by rw [size_set]) fun a c hc => by rw [heap_set_same hc]; rfl) ?_
              have k1 : Keeps (fun b => g b ≠ .none) w w2 := (Keeps.below HB2.out).mono fun b hb hb' => absurd hb (by omega)
              have k2 : Keeps (fun b => g b ≠ .none) w2 w5 := (turned_keeps HT5.out).mono fun b _ hb => by rw [show b = nb d from hb, hgd]; simp
              have k3 : Keeps (fun b => g b ≠ .none) w5 (w5.setCell ⟨ib id, 2, none⟩ (.int .i64 (y.links + 1))) := (Keeps.set_ w5 ⟨ib id, 2, none⟩ _).mono fun b _ hb => by rw [show b = ib id from hb, hgi]; simp
              exact (k1.trans k2 (fun _ _ h => h)).trans k3 (fun _ _ h => h)
        · have hne : ((placeM T ls').2.2 == 0) = false := by simpa using hp
          have hne2 : ((placeM T ls').2.2 != 0) = true := by simpa using hp
          have HM : Hid (linkM T ls ls' = ((placeM T ls').2.2, T)) := by
            have : linkE T ls ls' = (placeM T ls').2.2 := by
              unfold linkE
              rw [if_neg (by rw [HFL.out]; simp), ← HQ.out, if_neg (by simp), if_neg (by rw [kindM_of HY.out]; exact hk), if_pos hp]
            unfold linkM; rw [this, if_neg hp]; exact rfl
          have HP := Lib.hid hp
          unfold RetPlace at HPL
          generalize placeM T ls' = q at *
          clear hp hk
          go_enter Tryz.func43, Tryz.ntmps43
          go_wp2_with fail
          (with_reducible refine HF.out.mono ?_)
          rintro e w1 ⟨rfl, hb1⟩
          have HB1 := Lib.hid hb1
          clear hb1
          go_wp2_with fail
          (with_reducible refine (HLK.out w1 HB1.out).mono ?_)
          rintro e w2 ⟨rfl, rfl⟩
          obtain ⟨c0, hmap, c1, c2⟩ := HIT.out w1 HB1.out
          have HMAP := Lib.hid hmap
          clear hmap
          go_wp2_with (first | (at_lookup; refine wpList_look intK rfl _ _ 95 88 rfl Tryz.underlying95 (Tryz.zeroItem _) rfl HMAP.out id rfl hok ?_; rw [HG.out]))
          (with_reducible refine (HPL.out w1 HB1.out).mono ?_)
          rintro e w2 ⟨rfl, hb2⟩
          rw [if_neg HP.out]
          have HB2 := Lib.hid (HB1.out.trans (hb2.mono HB1.out.size))
          clear hb2
          go_wp2_with fail
          go_ret
          rw [HM.out]
          exact Turn.same HH.out HB2.out rfl
    · have hne : (e0 == 0) = false := by simpa using he
      have hne2 : (e0 != 0) = true := by simpa using he
      have HM : Hid (linkM T ls ls' = (e0, T)) := by
        have : linkE T ls ls' = e0 := by
          unfold linkE
          rw [if_neg (by rw [HFL.out]; simp), ← HQ.out, if_pos he]
        unfold linkM; rw [this, if_neg he]; exact rfl
      clear he
      go_enter Tryz.func43, Tryz.ntmps43
      go_wp2_with fail
      (with_reducible refine HF.out.mono ?_)
      rintro e w1 ⟨rfl, hb1⟩
      have HB1 := Lib.hid hb1
      clear hb1
      go_wp2_with fail
      (with_reducible refine (HLK.out w1 HB1.out).mono ?_)
      rintro e w2 ⟨rfl, rfl⟩
      go_wp2_with fail
      go_ret
      rw [HM.out]
      exact Turn.same HH.out HB1.out rfl
  · have HM : Hid (linkM T ls ls' = (fine2 ls ls', T)) := by
      have : linkE T ls ls' = fine2 ls ls' := by unfold linkE; rw [if_pos hf]
      unfold linkM; rw [this, if_neg hf]; exact rfl
    have hne : (fine2 ls ls' == 0) = false := by simpa using hf
    have hne2 : (fine2 ls ls' != 0) = true := by simpa using hf
    clear hf
    go_enter Tryz.func43, Tryz.ntmps43
    go_wp2_with fail
    (with_reducible refine HF.out.mono ?_)
    rintro e w1 ⟨rfl, hb1⟩
    go_wp2_with fail
    go_ret
    rw [HM.out]
    exact Turn.same HH.out hb1 rfl
end
end Go.Proofs.YtmabllemjkcobaaGreatDoor
namespace Go.Proofs.YtmabllemjkcobaaGreatDoor
open Go.ChangeShapes Go.WideShapes Go.ChangeAt Go.RowKit
set_option linter.unusedVariables false
set_option linter.unusedSimpArgs false

/-- A node without names that lead to it, and without names, is gone. -/
theorem OkM.del {T : TrM} (h : OkM T) {k : Int} {x : ItM} (hx : aget k T = some x) (h0 : k ≠ 0) (hn : x.names = []) (hc : cntM T k = 0) : OkM (adel k T) := by
  have hget : ∀ j y, aget j (adel k T) = some y → j ≠ k ∧ aget j T = some y := fun j y hy => by
    rw [aget_adel] at hy
    by_cases hj : j = k
    · rw [if_pos hj] at hy; cases hy
    · rw [if_neg hj] at hy; exact ⟨hj, hy⟩
  have hcn : ∀ j, cn j x = 0 := fun j => by unfold cn; rw [hn]; rfl
  refine ⟨⟨h.sorted.adel _, ?_, fun j y hy => h.each j y (hget j y hy).2, fun j y hy e he => ?_, ?_, fun j y hy => h.ids j y (hget j y hy).2⟩, fun j y hy hj => ?_⟩
  · have hr := h.root
    unfold kindM at hr ⊢
    rw [aget_adel, if_neg (Ne.symm h0)]
    exact hr
  · have h1 := h.leads j y (hget j y hy).2 e he
    have h2 := cn_zero hc (hget j y hy).2 e he
    rw [aget_adel, if_neg h2]
    exact h1
  · have := length_adel iltLaws h.sorted hx
    have := h.len
    omega
  · have h1 := cntM_adel h.sorted hx j
    rw [hcn] at h1
    have h2 := h.counts j y (hget j y hy).2 hj
    omega
theorem OkM.settle {T : TrM} (h : OkM T) {k : Int} (hk : k ≠ 0) (hf : ∀ x, aget k T = some x → x.kind ≠ 2) : OkM (settleM T k) := by
  unfold settleM
  cases hx : aget k T with
  | none => exact h
  | some x =>
    simp only
    by_cases hc : x.links = 0 ∧ x.closed = true
    · rw [if_pos hc]
      have hk1 := (h.each k x hx).kind.resolve_right (hf x hx)
      refine h.del hx hk ((h.each k x hx).file hk1) ?_
      have := h.counts k x hx hk
      omega
    · rw [if_neg hc]; exact h
theorem OkM.file_ne {T : TrM} (h : OkM T) {k : Int} {x : ItM} (hx : aget k T = some x) (hk : x.kind ≠ 2) : k ≠ 0 := by
  rintro rfl
  have := h.root
  unfold kindM at this
  rw [hx] at this
  exact hk this
theorem makeE_zero {T : TrM} (hT : OkM T) {ls : List Nm} {kind : Int} (h : makeE T ls kind = 0) : fineL ls = 0 ∧ (kind = 1 ∨ kind = 2) ∧ (placeM T ls).2.2 = 0 ∧ aget (placeM T ls).2.1 (namesM T (placeM T ls).1) = none ∧ T.length < 64 := by
  unfold makeE at h
  by_cases h1 : fineL ls ≠ 0
  · rw [if_pos h1] at h; exact absurd h h1
  · rw [if_neg h1] at h
    by_cases h2 : ¬ (kind = 1 ∨ kind = 2)
    · rw [if_pos h2] at h; cases h
    · rw [if_neg h2] at h
      by_cases h3 : (placeM T ls).2.2 ≠ 0
      · rw [if_pos h3] at h; exact absurd h h3
      · rw [if_neg h3] at h
        by_cases h4 : (aget (placeM T ls).2.1 (namesM T (placeM T ls).1)).isSome = true
        · rw [if_pos h4] at h; cases h
        · rw [if_neg h4] at h
          by_cases h5 : 64 ≤ T.length
          · rw [if_pos h5] at h; cases h
          · exact ⟨by omega, Decidable.not_not.1 h2, by omega, by simpa using h4, by omega⟩
theorem OkM.makeM {T : TrM} (h : OkM T) (ls : List Nm) (kind : Int) : OkM (makeM T ls kind).2 := by
  unfold Go.Proofs.YtmabllemjkcobaaGreatDoor.makeM
  by_cases he : makeE T ls kind = 0
  · rw [if_pos he]
    obtain ⟨h1, h2, h3, h4, h5⟩ := makeE_zero h he
    obtain ⟨x, hx, hk, hm⟩ := placeM_spec h h3
    obtain ⟨f, hf, hf1, hf2, hfn, _⟩ := h.free
    have e1 : namesM T (placeM T ls).1 = x.names := by unfold namesM; rw [hx]
    rw [e1] at h4
    have hlen := h.len
    show OkM (makeOk T ls kind)
    unfold makeOk
    rw [hf]
    exact h.make h2 hfn (by omega) (by omega) h5 hx hk (fineL_good h1 _ hm) h4
  · rw [if_neg he]; exact h
theorem OkM.appendM {T : TrM} (h : OkM T) (id : Int) (b : List UInt8) : OkM (appendM T id b).2 := by
  unfold Go.Proofs.YtmabllemjkcobaaGreatDoor.appendM
  by_cases he : appendE T id b = 0
  · simp only [if_pos he]
    unfold appendE at he
    cases hx : aget id T with
    | none => rw [hx] at he; cases he
    | some x =>
      rw [hx] at he
      simp only at he
      by_cases hk : x.kind = 2
      · rw [if_pos hk] at he; cases he
      · rw [if_neg hk] at he
        cases hc : x.closed with
        | true => rw [hc] at he; cases he
        | false =>
          rw [hc] at he
          simp only [Bool.false_eq_true, if_false] at he
          by_cases hb : 4096 < x.b.length + b.length
          · rw [if_pos hb] at he; cases he
          · have ho := h.each id x hx
            exact h.amod_same hx ⟨ho.kind, ho.file, fun h => absurd h hk, fun _ => hc, ho.sorted, ho.good, by rw [List.length_append]; omega, ho.links, ho.til⟩ rfl rfl rfl
  · simp only [if_neg he]; exact h
theorem OkM.sealM {T : TrM} (h : OkM T) (id til : Int) (h0 : 0 ≤ til) : OkM (sealM T id til).2 := by
  unfold Go.Proofs.YtmabllemjkcobaaGreatDoor.sealM
  by_cases he : sealE T id til = 0
  · simp only [if_pos he]
    unfold sealE at he
    cases hx : aget id T with
    | none => rw [hx] at he; cases he
    | some x =>
      rw [hx] at he
      simp only at he
      by_cases hk : x.kind = 2
      · rw [if_pos hk] at he; cases he
      · rw [if_neg hk] at he
        cases hc : x.closed with
        | true => rw [hc] at he; cases he
        | false =>
          rw [hc] at he
          simp only [Bool.false_eq_true, if_false] at he
          by_cases hb : 1099511627776 < til
          · rw [if_pos hb] at he; cases he
          · have ho := h.each id x hx
            have hk1 := ho.kind.resolve_right hk
            have hcnt := h.counts id x hx (h.file_ne hx hk)
            by_cases hl : x.links = 0
            · have hn := ho.file hk1
              have e : settleM (Go.Proofs.YtmabllemjkcobaaGreatDoor.amod id (fun x => { x with closed := true, til := til }) T) id = adel id T := by
                unfold settleM
                rw [aget_amod, if_pos rfl, hx]
                simp only [Option.map_some, hl, and_self, if_true]
                unfold adel Go.Proofs.YtmabllemjkcobaaGreatDoor.amod
                clear hx ho hcnt he h
                induction T with
                | nil => rfl
                | cons y r ih =>
                  rw [List.map_cons, List.filter_cons, List.filter_cons, ih]
                  by_cases hy : y.1 = id <;> simp [hy]
              rw [e]
              exact h.del hx (h.file_ne hx hk) hn (by omega)
            · have hs : OkM (Go.Proofs.YtmabllemjkcobaaGreatDoor.amod id (fun x => { x with closed := true, til := til }) T) :=
                h.amod_same hx ⟨ho.kind, ho.file, fun h => absurd h hk, fun h => absurd h hl, ho.sorted, ho.good, ho.size, ho.links, ⟨h0, by simp only; omega⟩⟩ rfl rfl rfl
              exact hs.settle (h.file_ne hx hk) (fun y hy => by
                rw [aget_amod, if_pos rfl, hx] at hy
                simp only [Option.map_some, Option.some.injEq] at hy
                rw [← hy]
                exact hk)
  · simp only [if_neg he]; exact h
theorem OkM.keepM {T : TrM} (h : OkM T) (id til : Int) (h0 : 0 ≤ til) : OkM (keepM T id til).2 := by
  unfold Go.Proofs.YtmabllemjkcobaaGreatDoor.keepM
  by_cases he : keepE T id til = 0
  · simp only [if_pos he]
    unfold keepE at he
    cases hx : aget id T with
    | none => rw [hx] at he; cases he
    | some x =>
      rw [hx] at he
      simp only at he
      by_cases hk : x.kind = 2
      · rw [if_pos hk] at he; cases he
      · rw [if_neg hk] at he
        by_cases hc : x.closed = false
        · rw [if_pos hc] at he; cases he
        · rw [if_neg hc] at he
          by_cases hb : til < x.til
          · rw [if_pos hb] at he; cases he
          · rw [if_neg hb] at he
            by_cases hb : 1099511627776 < til
            · rw [if_pos hb] at he; cases he
            · have ho := h.each id x hx
              exact h.amod_same hx ⟨ho.kind, ho.file, fun h => absurd h hk, ho.gone, ho.sorted, ho.good, ho.size, ho.links, ⟨h0, by simp only; omega⟩⟩ rfl rfl rfl
  · simp only [if_neg he]; exact h
theorem linkE_zero {T : TrM} {p tq : List Nm} (h : linkE T p tq = 0) : fine2 p tq = 0 ∧ (lookM T 0 p).2 = 0 ∧ kindM T (lookM T 0 p).1 ≠ 2 ∧ (placeM T tq).2.2 = 0 ∧ aget (placeM T tq).2.1 (namesM T (placeM T tq).1) = none ∧ linksM T (lookM T 0 p).1 < 64 := by
  unfold linkE at h
  by_cases h1 : fine2 p tq ≠ 0
  · rw [if_pos h1] at h; exact absurd h h1
  · rw [if_neg h1] at h
    by_cases h2 : (lookM T 0 p).2 ≠ 0
    · rw [if_pos h2] at h; exact absurd h h2
    · rw [if_neg h2] at h
      by_cases h3 : kindM T (lookM T 0 p).1 = 2
      · rw [if_pos h3] at h; cases h
      · rw [if_neg h3] at h
        by_cases h4 : (placeM T tq).2.2 ≠ 0
        · rw [if_pos h4] at h; exact absurd h h4
        · rw [if_neg h4] at h
          by_cases h5 : (aget (placeM T tq).2.1 (namesM T (placeM T tq).1)).isSome = true
          · rw [if_pos h5] at h; cases h
          · rw [if_neg h5] at h
            by_cases h6 : 64 ≤ linksM T (lookM T 0 p).1
            · rw [if_pos h6] at h; cases h
            · exact ⟨by omega, by omega, h3, by omega, by simpa using h5, by omega⟩
theorem fine2_zero {p q : List Nm} (h : fine2 p q = 0) : fineL p = 0 ∧ fineL q = 0 := by
  unfold fine2 at h
  split at h
  · rename_i h1; exact absurd h h1
  · exact ⟨by omega, h⟩
theorem OkM.linkM {T : TrM} (h : OkM T) (p tq : List Nm) : OkM (linkM T p tq).2 := by
  unfold Go.Proofs.YtmabllemjkcobaaGreatDoor.linkM
  by_cases he : linkE T p tq = 0
  · simp only [if_pos he]
    obtain ⟨h1, h2, h3, h4, h5, h6⟩ := linkE_zero he
    obtain ⟨x, hx, hk, hm⟩ := placeM_spec h h4
    obtain ⟨y, hy⟩ := Option.isSome_iff_exists.1 (lookM_there h p 0 (root_there h) h2)
    have e1 : namesM T (placeM T tq).1 = x.names := by unfold namesM; rw [hx]
    have e2 : linksM T (lookM T 0 p).1 = y.links := by unfold linksM; rw [hy]
    rw [e1] at h5
    rw [e2] at h6
    rw [kindM_of hy] at h3
    exact h.link hx hk (fineL_good (fine2_zero h1).2 _ hm) h5 hy h3 h6 (h.file_ne hy h3)
  · simp only [if_neg he]; exact h

structure TreeIn (W : World) (P : Nat → Prop) (w : World) (p : Nat) (T : TrM) : Prop where
  at_ : ∃ g D mb ib nb, TreeAt g D w p mb ib nb T ∧ ∀ b, g b ≠ .none ∨ D b → W.heap.size ≤ b ∧ ¬ P b
  ok : OkM T
  below : Below W.heap.size W w
  low : ∀ x, P x → x < w.heap.size
theorem TreeIn.grow {W w w' : World} {P : Nat → Prop} {p : Nat} {T : TrM} (h : TreeIn W P w p T) (hb : Below w.heap.size w w') : TreeIn W P w' p T := by
  obtain ⟨g, D, mb, ib, nb, hA, hF⟩ := h.at_
  exact ⟨⟨g, D, mb, ib, nb, hA.below hb (Nat.le_refl _), hF⟩, h.ok, h.below.trans (hb.mono h.below.size), fun x hx => Nat.lt_of_lt_of_le (h.low x hx) hb.size⟩
theorem TreeIn.mono {W w : World} {P Q : Nat → Prop} {p : Nat} {T : TrM} (h : TreeIn W P w p T) (hq : ∀ x, Q x → P x) : TreeIn W Q w p T := by
  obtain ⟨g, D, mb, ib, nb, hA, hF⟩ := h.at_
  exact ⟨⟨g, D, mb, ib, nb, hA, fun x hx => ⟨(hF x hx).1, fun h => (hF x hx).2 (hq x h)⟩⟩, h.ok, h.below, fun x hx => h.low x (hq x hx)⟩
section
variable {W w : World} {P : Nat → Prop} {p : Nat} {T : TrM}
end
end Go.Proofs.YtmabllemjkcobaaGreatDoor
