/- tree: Link. -/
import Derived.Test.YtbapdoicejakhaaGreatM14
namespace Go.Proofs.YtbapdoicejakhaaGreat
open Go.ChangeShapes Go.WideShapes Go.ChangeAt Go.RowKit
set_option linter.unusedVariables false
set_option linter.unusedSimpArgs false

section
variable {g : Nat → Own} {D : Nat → Prop} {p mb : Nat} {ib nb : Int → Nat} {T : TrM}
theorem kindM_of {id : Int} {x : ItM} (hx : aget id T = some x) : kindM T id = x.kind := by unfold kindM; rw [hx]
/-- A name more of a node. -/
theorem OkM.link (h : OkM T) {d id : Int} {x y : ItM} {n : Nm} (hx : aget d T = some x) (hxk : x.kind = 2) (hn : goodL n = true) (hnn : aget n x.names = none) (hy : aget id T = some y) (hyk : y.kind ≠ 2) (hl : y.links < 64) (h0 : id ≠ 0) :
    OkM (Go.Proofs.YtbapdoicejakhaaGreat.amod id (fun x => { x with links := x.links + 1 }) (setName T d n id)) := by
  have hdi : id ≠ d := fun e => by subst e; rw [hx] at hy; cases hy; exact hyk hxk
  have hP := h.toOkP.set (n := n) (id := id) hx hxk hn ⟨by rw [hy]; rfl, h0⟩
  have hy1 : aget id (setName T d n id) = some y := by unfold setName; rw [aget_amod, if_neg hdi]; exact hy
  have hoy := h.each id y hy
  have hk1 : y.kind = 1 := hoy.kind.resolve_right hyk
  have hsame : cn id { y with links := y.links + 1 } = cn id y := rfl
  refine ⟨hP.amod (f := fun x => { x with links := x.links + 1 }) hy1 ⟨hoy.kind, hoy.file, fun h => absurd h hyk, fun h => ?_, hoy.sorted, hoy.good, hoy.size, ?_, hoy.til⟩ rfl (hP.leads id y hy1), fun j z hz hj => ?_⟩
  · have := hoy.links
    have h2 : y.links + 1 = 0 := h
    omega
  · have := hoy.links
    simp only
    omega
  · have h1 := cntM_amod hP.sorted (fun x => { x with links := x.links + 1 }) hy1 j
    have h1' : cn j { y with links := y.links + 1 } = cn j y := rfl
    have h2 := cntM_amod h.sorted (fun x => { x with names := aput bytesBefore n id x.names }) hx j
    have h3 := cn_set (id := id) hnn j
    have e : cntM (Go.Proofs.YtbapdoicejakhaaGreat.amod id (fun x => { x with links := x.links + 1 }) (setName T d n id)) j = cntM T j + if id = j then 1 else 0 := by
      unfold setName at h1 ⊢
      rw [h1'] at h1
      omega
    rw [e]
    rw [aget_amod] at hz
    by_cases hji : j = id
    · subst hji
      rw [if_pos rfl, hy1] at hz
      simp only [Option.map_some, Option.some.injEq] at hz
      rw [← hz, if_pos rfl]
      have := h.counts j y hy hj
      simp only
      omega
    · rw [if_neg hji] at hz
      rw [if_neg (Ne.symm hji)]
      unfold setName at hz
      rw [aget_amod] at hz
      by_cases hjd : j = d
      · subst hjd
        rw [if_pos rfl, hx] at hz
        simp only [Option.map_some, Option.some.injEq] at hz
        have := h.counts j x hx hj
        rw [← hz]
        simp only
        omega
      · rw [if_neg hjd] at hz
        have := h.counts j z hz hj
        omega
theorem lookM_zero {p : List Nm} {id : Int} (h : lookM T 0 p = (id, 0)) (hT : OkM T) : (aget id T).isSome = true := by
  have := lookM_there hT p 0 (root_there hT) (by rw [h])
  rw [h] at this
  exact this

set_option maxRecDepth 100000 in
set_option maxHeartbeats 8000000 in
theorem link_at {S S' : Nat → Prop} (a : Option Addr) (n c : Nat) (ls : List Nm) (a' : Option Addr) (n' c' : Nat) (ls' : List Nm) (w : World) (h : TreeAt g D w p mb ib nb T) (hT : OkM T) (hS : StrsAt S w a n (ls.map strOf)) (hS' : StrsAt S' w a' n' (ls'.map strOf)) (hc' : n' ≤ c') (hn8 : n' ≤ 1000000) :
    Calls Tryz.prog 24 #[ptr p, .slice a n c, .slice a' n' c'] w (Turn g D w p mb (linkM T ls ls').2 (.int .i64 (linkM T ls ls').1)) := by
  have HH := Lib.hid h
  have HT := Lib.hid hT
  have HF := Lib.hid (fine2_at a n c ls a' n' c' ls' w hS hS')
  have HLK := Lib.hid (fun w1 (hb : Below w.heap.size w w1) => look_any a n c ls w1 (h.below hb (Nat.le_refl _)) hT (hS.below hb (Nat.le_refl _)))
  have HPL := Lib.hid (fun w1 (hb : Below w.heap.size w w1) => place_any a' n' c' ls' w1 (h.below hb (Nat.le_refl _)) hT (hS'.below hb (Nat.le_refl _)) hc' hn8)
  clear h hT hS hS'
  by_cases hf : fine2 ls ls' = 0
  · have HFL := Lib.hid hf
    rw [hf] at HF
    clear hf
    obtain ⟨⟨id, e0⟩, hq⟩ : ∃ q, q = lookM T 0 ls := ⟨_, rfl⟩
    have HQ := Lib.hid hq
    rw [← hq] at HLK
    clear hq
    by_cases he : e0 = 0
    · subst he
      obtain ⟨y, hy⟩ := Option.isSome_iff_exists.1 (lookM_zero HQ.out.symm HT.out)
      have HY := Lib.hid hy
      have hids := HT.out.ids id y hy
      have hok : intK.ok id := okInt hids.1 (by omega)
      have HG : Hid (aget id (T.map fun q => (q.1, ptr (ib q.1))) = some (ptr (ib id))) := by rw [aget_ptr, hy]; rfl
      have HIT : Hid (∀ w1, Below w.heap.size w w1 → w1.cell? ⟨p, 0, none⟩ = some (.map (some mb)) ∧ MapAt intK w1 mb (T.map fun q => (q.1, ptr (ib q.1))) ∧ w1.cell? ⟨ib id, 1, none⟩ = some (.int .i64 y.kind) ∧ w1.cell? ⟨ib id, 2, none⟩ = some (.int .i64 y.links)) := fun w1 hb => by
        have h2 := HH.out.below hb (Nat.le_refl _)
        obtain ⟨_, c1, c2, _⟩ := (h2.item id y HY.out).cell
        exact ⟨h2.cell.1, h2.map, c1, c2⟩
      clear hy
      by_cases hk : y.kind = 2
      · have HM : Hid (linkM T ls ls' = (22, T)) := by
          have : linkE T ls ls' = 22 := by
            unfold linkE
            rw [if_neg (by rw [HFL.out]; simp), ← HQ.out, if_neg (by simp), if_pos ((kindM_of HY.out).trans hk)]
          unfold linkM; rw [this, if_neg (by decide)]; exact rfl
        go_enter Tryz.func24, Tryz.ntmps24
        go_wp2_with fail
        (with_reducible refine HF.out.mono ?_)
        rintro e w1 ⟨rfl, hb1⟩
        have HB1 := Lib.hid hb1
        clear hb1
        go_wp2_with fail
        (with_reducible refine (HLK.out w1 HB1.out).mono ?_)
        rintro e w2 ⟨rfl, rfl⟩
        obtain ⟨c0, hmap, c1, c2⟩ := HIT.out w1 HB1.out
        rw [hk] at c1
        have HMAP := Lib.hid hmap
        clear hmap
        go_wp2_with (first | (at_lookup; refine wpList_look intK rfl _ _ 86 84 rfl Tryz.underlying86 (Tryz.zeroItem _) rfl HMAP.out id rfl hok ?_; rw [HG.out]))
        go_ret
        rw [HM.out]
        exact Turn.same HH.out HB1.out rfl
      · have hkk : (y.kind == 2) = false := by simpa using hk
        by_cases hp : (placeM T ls').2.2 = 0
        · obtain ⟨x, hx, hxk, hnm⟩ := placeM_spec HT.out hp
          have hgn : goodL (placeM T ls').2.1 = true := by
            have : fineL ls' = 0 := by
              have := HFL.out
              unfold fine2 at this
              split at this
              · rename_i h1; exact absurd this h1
              · exact this
            exact fineL_good this _ hnm
          obtain ⟨⟨d, nm, z⟩, hq⟩ : ∃ q, q = placeM T ls' := ⟨_, rfl⟩
          unfold RetPlace at HPL
          rw [← hq] at hp hx hnm hgn HPL
          obtain rfl : z = 0 := hp
          have HQP := Lib.hid hq
          have HX := Lib.hid hx
          have HGN := Lib.hid hgn
          have HXK := Lib.hid hxk
          have HYK := Lib.hid hk
          clear hq hx hgn hxk hnm hk
          have hokn : strK.ok nm := by
            have := good_len nm HGN.out
            show nm.length ≤ maxLen
            unfold maxLen; omega
          have HME : Hid (linkE T ls ls' = if (aget nm x.names).isSome then 21 else if 64 ≤ y.links then 4 else 0) := by
            have e1 : namesM T d = x.names := by unfold namesM; rw [HX.out]
            have e2 : linksM T id = y.links := by unfold linksM; rw [HY.out]
            unfold linkE
            rw [if_neg (by rw [HFL.out]; simp), ← HQ.out, if_neg (by simp), if_neg (by rw [kindM_of HY.out]; exact HYK.out), ← HQP.out, if_neg (by simp), e1, e2]
            exact rfl
          have HCELL : Hid (∀ w2, Below w.heap.size w w2 → w2.cell? ⟨ib d, 7, none⟩ = some (.map (some (nb d))) ∧ MapAt strK w2 (nb d) (nameL x)) := fun w2 hb => by
            have h2 := HH.out.below hb (Nat.le_refl _)
            have hi := h2.item d x HX.out
            obtain ⟨_, _, _, _, _, _, c7, _⟩ := hi.cell
            unfold namesV at c7
            rw [if_pos HXK.out] at c7
            exact ⟨c7, hi.names HXK.out⟩
          cases hj : aget nm x.names with
          | some j =>
            have HGJ : Hid (aget nm (nameL x) = some (.int .i64 j)) := by rw [aget_nameL, hj]; rfl
            have HM : Hid (linkM T ls ls' = (21, T)) := by
              unfold linkM; rw [HME.out, hj]; simp only [Option.isSome_some, if_true]; exact rfl
            clear hj
            go_enter Tryz.func24, Tryz.ntmps24
            go_wp2_with fail
            (with_reducible refine HF.out.mono ?_)
            rintro e w1 ⟨rfl, hb1⟩
            have HB1 := Lib.hid hb1
            clear hb1
            go_wp2_with fail
            (with_reducible refine (HLK.out w1 HB1.out).mono ?_)
            rintro e w2 ⟨rfl, rfl⟩
            obtain ⟨c0, hmap, c1, c2⟩ := HIT.out w1 HB1.out
            have HMAP := Lib.hid hmap
            clear hmap
            go_wp2_with (first | (at_lookup; refine wpList_look intK rfl _ _ 86 84 rfl Tryz.underlying86 (Tryz.zeroItem _) rfl HMAP.out id rfl hok ?_; rw [HG.out]))
            (with_reducible refine (HPL.out w1 HB1.out).mono ?_)
            rintro e w2 ⟨rfl, hb2⟩
            (first | rw [if_pos rfl] | rw [if_pos trivial])
            have HB2 := Lib.hid (HB1.out.trans (hb2.mono HB1.out.size))
            clear hb2
            obtain ⟨d7, hnames⟩ := HCELL.out w2 HB2.out
            have HNM := Lib.hid hnames
            clear hnames
            go_wp2_with (at_lookup; refine wpList_look_ok strK rfl _ _ 89 3 rfl Tryz.underlying89 (Tryz.zeroInt _) rfl HNM.out nm rfl hokn ?_; rw [HGJ.out])
            go_ret
            rw [HM.out]
            exact Turn.same HH.out HB2.out rfl
          | none =>
            have HGJ : Hid (aget nm (nameL x) = none) := by rw [aget_nameL, hj]; rfl
            have HJ := Lib.hid hj
            clear hj
            by_cases h64 : 64 ≤ y.links
            · have HM : Hid (linkM T ls ls' = (4, T)) := by
                unfold linkM; rw [HME.out, HJ.out]; simp only [Option.isSome_none, Bool.false_eq_true, if_false, if_pos h64]; first | exact rfl | exact trivial
              have hd : decide ((64 : Int) ≤ y.links) = true := by simpa using h64
              go_enter Tryz.func24, Tryz.ntmps24
              go_wp2_with fail
              (with_reducible refine HF.out.mono ?_)
              rintro e w1 ⟨rfl, hb1⟩
              have HB1 := Lib.hid hb1
              clear hb1
              go_wp2_with fail
              (with_reducible refine (HLK.out w1 HB1.out).mono ?_)
              rintro e w2 ⟨rfl, rfl⟩
              obtain ⟨c0, hmap, c1, c2⟩ := HIT.out w1 HB1.out
              have HMAP := Lib.hid hmap
              clear hmap
              go_wp2_with (first | (at_lookup; refine wpList_look intK rfl _ _ 86 84 rfl Tryz.underlying86 (Tryz.zeroItem _) rfl HMAP.out id rfl hok ?_; rw [HG.out]))
              (with_reducible refine (HPL.out w1 HB1.out).mono ?_)
              rintro e w2 ⟨rfl, hb2⟩
              (first | rw [if_pos rfl] | rw [if_pos trivial])
              have HB2 := Lib.hid (HB1.out.trans (hb2.mono HB1.out.size))
              clear hb2
              obtain ⟨d7, hnames⟩ := HCELL.out w2 HB2.out
              obtain ⟨_, _, _, f2⟩ := HIT.out w2 HB2.out
              have HNM := Lib.hid hnames
              clear hnames
              go_wp2_with (at_lookup; refine wpList_look_ok strK rfl _ _ 89 3 rfl Tryz.underlying89 (Tryz.zeroInt _) rfl HNM.out nm rfl hokn ?_; rw [HGJ.out])
              go_ret
              rw [HM.out]
              exact Turn.same HH.out HB2.out rfl
            · have HM : Hid (linkM T ls ls' = (0, amod id (fun x => { x with links := x.links + 1 }) (setName T d nm id))) := by
                unfold linkM linkOk; rw [HME.out, HJ.out, ← HQP.out, ← HQ.out]; simp only [Option.isSome_none, Bool.false_eq_true, if_false, if_neg h64, if_pos]; first | exact rfl | exact trivial
              have hd : decide ((64 : Int) ≤ y.links) = false := by simpa using h64
              have hln := (HT.out.each id y HY.out).links
              have hdi : id ≠ d := fun e => by have h1 := HX.out; rw [← e, HY.out] at h1; cases h1; exact HYK.out HXK.out
              have HDI := Lib.hid hdi
              have hfew : (nameL x).length < maxLen := by
                have h1 := HT.out.few HX.out
                unfold nameL maxLen; rw [List.length_map]; omega
              have HFW := Lib.hid hfew
              clear hdi hfew
              go_enter Tryz.func24, Tryz.ntmps24
              go_wp2_with fail
              (with_reducible refine HF.out.mono ?_)
              rintro e w1 ⟨rfl, hb1⟩
              have HB1 := Lib.hid hb1
              clear hb1
              go_wp2_with fail
              (with_reducible refine (HLK.out w1 HB1.out).mono ?_)
              rintro e w2 ⟨rfl, rfl⟩
              obtain ⟨c0, hmap, c1, c2⟩ := HIT.out w1 HB1.out
              have HMAP := Lib.hid hmap
              clear hmap
              go_wp2_with (first | (at_lookup; refine wpList_look intK rfl _ _ 86 84 rfl Tryz.underlying86 (Tryz.zeroItem _) rfl HMAP.out id rfl hok ?_; rw [HG.out]))
              (with_reducible refine (HPL.out w1 HB1.out).mono ?_)
              rintro e w2 ⟨rfl, hb2⟩
              (first | rw [if_pos rfl] | rw [if_pos trivial])
              have HB2 := Lib.hid (HB1.out.trans (hb2.mono HB1.out.size))
              clear hb2
              obtain ⟨d7, hnames⟩ := HCELL.out w2 HB2.out
              obtain ⟨_, _, _, f2⟩ := HIT.out w2 HB2.out
              have HNM := Lib.hid hnames
              have HA2 := Lib.hid (HH.out.below HB2.out (Nat.le_refl _))
              have HSET : Hid (∀ w3, MapAt strK w3 (nb d) (aput strK.lt nm (.int .i64 id) (nameL x)) → w2.mapTurned w3 (nb d) → TreeAt g D w3 p mb ib nb (setName T d nm id) ∧ w3.cell? ⟨ib id, 2, none⟩ = some (.int .i64 y.links) ∧ w3.frozen? ⟨ib id, 2, none⟩ = false ∧ aget id (setName T d nm id) = some y) := fun w3 hM hTu => by
                have h3 := HA2.out.set (id := id) HX.out HXK.out hM hTu
                have hy3 : aget id (setName T d nm id) = some y := by unfold setName; rw [aget_amod, if_neg HDI.out]; exact HY.out
                exact ⟨h3, (h3.item id y hy3).cell.2.2.1, (h3.item id y hy3).frozen 2, hy3⟩
              clear hnames
              go_wp2_with (first | (at_lookup; refine wpList_look_ok strK rfl _ _ 89 3 rfl Tryz.underlying89 (Tryz.zeroInt _) rfl HNM.out nm rfl hokn ?_; rw [HGJ.out]) | (at_mapUpdate; refine wpList_store strK rfl _ _ _ 89 3 rfl Tryz.underlying89 rfl HNM.out HFW.out nm (.int .i64 id) rfl rfl hokn ?_; intro w5 hM5 hT5; obtain ⟨hA5, g2, gf2, hy5⟩ := HSET.out w5 hM5 hT5; have HA5 := Lib.hid hA5; have HY5 := Lib.hid hy5; have HT5 := Lib.hid hT5; clear hA5 hM5 hT5 hy5))
              go_ret
              rw [HM.out]
              have hA5 := HA5.out
              have hgi := HH.out.tagi id y HY.out
              have hgd := HH.out.tagn d x HX.out HXK.out
              refine Turn.of rfl (hA5.fields HY5.out (fun x => { x with links := x.links + 1 }) rfl rfl rfl (Keeps.set_ w5 ⟨ib id, 2, none⟩ _) (by rw [size_set]) fun a c hc => by rw [heap_set_same hc]; rfl) ?_
              have k1 : Keeps (fun b => g b ≠ .none) w w2 := (Keeps.below HB2.out).mono fun b hb hb' => absurd hb (by omega)
              have k2 : Keeps (fun b => g b ≠ .none) w2 w5 := (turned_keeps HT5.out).mono fun b _ hb => by rw [show b = nb d from hb, hgd]; simp
              have k3 : Keeps (fun b => g b ≠ .none) w5 (w5.setCell ⟨ib id, 2, none⟩ (.int .i64 (y.links + 1))) := (Keeps.set_ w5 ⟨ib id, 2, none⟩ _).mono fun b _ hb => by rw [show b = ib id from hb, hgi]; simp
              exact (k1.trans k2 (fun _ _ h => h)).trans k3 (fun _ _ h => h)
        · have hne : ((placeM T ls').2.2 == 0) = false := by simpa using hp
          have hne2 : ((placeM T ls').2.2 != 0) = true := by simpa using hp
          have HM : Hid (linkM T ls ls' = ((placeM T ls').2.2, T)) := by
            have : linkE T ls ls' = (placeM T ls').2.2 := by
              unfold linkE
              rw [if_neg (by rw [HFL.out]; simp), ← HQ.out, if_neg (by simp), if_neg (by rw [kindM_of HY.out]; exact hk), if_pos hp]
            unfold linkM; rw [this, if_neg hp]; exact rfl
          have HP := Lib.hid hp
          unfold RetPlace at HPL
          generalize placeM T ls' = q at *
          clear hp hk
          go_enter Tryz.func24, Tryz.ntmps24
          go_wp2_with fail
          (with_reducible refine HF.out.mono ?_)
          rintro e w1 ⟨rfl, hb1⟩
          have HB1 := Lib.hid hb1
          clear hb1
          go_wp2_with fail
          (with_reducible refine (HLK.out w1 HB1.out).mono ?_)
          rintro e w2 ⟨rfl, rfl⟩
          obtain ⟨c0, hmap, c1, c2⟩ := HIT.out w1 HB1.out
          have HMAP := Lib.hid hmap
          clear hmap
          go_wp2_with (first | (at_lookup; refine wpList_look intK rfl _ _ 86 84 rfl Tryz.underlying86 (Tryz.zeroItem _) rfl HMAP.out id rfl hok ?_; rw [HG.out]))
          (with_reducible refine (HPL.out w1 HB1.out).mono ?_)
          rintro e w2 ⟨rfl, hb2⟩
          rw [if_neg HP.out]
          have HB2 := Lib.hid (HB1.out.trans (hb2.mono HB1.out.size))
          clear hb2
          go_wp2_with fail
          go_ret
          rw [HM.out]
          exact Turn.same HH.out HB2.out rfl
    · have hne : (e0 == 0) = false := by simpa using he
      have hne2 : (e0 != 0) = true := by simpa using he
      have HM : Hid (linkM T ls ls' = (e0, T)) := by
        have : linkE T ls ls' = e0 := by
          unfold linkE
          rw [if_neg (by rw [HFL.out]; simp), ← HQ.out, if_pos he]
        unfold linkM; rw [this, if_neg he]; exact rfl
      clear he
      go_enter Tryz.func24, Tryz.ntmps24
      go_wp2_with fail
      (with_reducible refine HF.out.mono ?_)
      rintro e w1 ⟨rfl, hb1⟩
      have HB1 := Lib.hid hb1
      clear hb1
      go_wp2_with fail
      (with_reducible refine (HLK.out w1 HB1.out).mono ?_)
      rintro e w2 ⟨rfl, rfl⟩
      go_wp2_with fail
      go_ret
      rw [HM.out]
      exact Turn.same HH.out HB1.out rfl
  · have HM : Hid (linkM T ls ls' = (fine2 ls ls', T)) := by
      have : linkE T ls ls' = fine2 ls ls' := by unfold linkE; rw [if_pos hf]
      unfold linkM; rw [this, if_neg hf]; exact rfl
    have hne : (fine2 ls ls' == 0) = false := by simpa using hf
    have hne2 : (fine2 ls ls' != 0) = true := by simpa using hf
    clear hf
    go_enter Tryz.func24, Tryz.ntmps24
    go_wp2_with fail
    (with_reducible refine HF.out.mono ?_)
    rintro e w1 ⟨rfl, hb1⟩
    go_wp2_with fail
    go_ret
    rw [HM.out]
    exact Turn.same HH.out hb1 rfl
end
end Go.Proofs.YtbapdoicejakhaaGreat
