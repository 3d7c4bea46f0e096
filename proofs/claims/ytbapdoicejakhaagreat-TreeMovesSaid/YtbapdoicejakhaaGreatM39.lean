/- The reference: Make. -/
import Derived.Test.YtbapdoicejakhaaGreatM38
namespace Go.Proofs.YtbapdoicejakhaaGreat
open Go.ChangeShapes Go.WideShapes Go.ChangeAt Go.RowKit
set_option linter.unusedVariables false
set_option linter.unusedSimpArgs false

theorem makeM_bad {T : TrM} {p : List Nm} {kind v : Int} (h : makeE T p kind = v) (hv : v ≠ 0) : makeM T p kind = ((0, v), T) := by
  unfold makeM
  rw [h, if_neg hv]
/-- A new node's cells. -/
def newC (f kind : Int) (kb : Bool) : List Value := [.int .i64 f, .int .i64 kind, .int .i64 1, .int .i64 0, .int .u64 0, .bool kb]
theorem newC_one (f kind : Int) (kb : Bool) : ∀ u ∈ newC f kind kb, u.oneCell' = true := by
  intro u hu
  simp only [newC, List.mem_cons, List.not_mem_nil, or_false] at hu
  rcases hu with rfl | rfl | rfl | rfl | rfl | rfl <;> rfl
/-- Where a new node goes. -/
def MakeK (T : TrM) (f : Int) (w : World) (v : Value) (wx : World) : Prop :=
  ∃ k : Nat, k ≤ T.length ∧ v = .int .i64 k ∧ (∀ x, aput ilt f x T = T.take k ++ (f, x) :: T.drop k) ∧ w = wx
theorem MakeK.of {T : TrM} {f : Int} {w : World} {k : Nat} (hs : ASorted ilt T) (hf : aget f T = none) (hk : k ≤ T.length) (ha : (T.take k).all (fun q => decide (q.1 < f)) = true) (hx : ∀ q, T[k]? = some q → decide (q.1 < f) = false) : MakeK T f w (.int .i64 k) w := by
  refine ⟨k, hk, rfl, fun x => ?_, rfl⟩
  obtain ⟨h1, h2⟩ := take_while ha hx hk
  rw [put_at hs x hf, h1, h2]
theorem make_nodes {w u : World} {r : Nat} {x0 x1 x2 : Value} {T T' : TrM} {f kind : Int} {kb : Bool} {k m n c : Nat} {A : Option Addr} {ys : List Value} (hr : r < w.heap.size) (h1 : w.heap[r]? = some (.cells #[x0, x1, x2] 100 (0, 0))) (hB : Below w.heap.size w u)
    (hT' : T' = T.take k ++ (f, freshM kind) :: T.drop k ∧ kb = decide (kind = 2)) (hn : n = T.length) (hk : k ≤ n) (hmk : m = k) (hys : ys = (T.take k).flatMap nodeC)
    (hown : u.ownsRow w.heap.size 29 6 (.slice A (m + 1 + (n - k)) c) (m + 1 + (n - k)) ((ys ++ newC f kind kb) ++ (T.drop k).flatMap nodeC)) (hm : (m + 1 + (n - k)) * 6 ≤ maxLen) :
    NodesSet w r x1 x2 T' (u.setCell ⟨r, 0, none⟩ (.slice A (k + 1 + (n - k)) c)) := by
  subst hmk hys
  obtain ⟨hT', hkb⟩ := hT'
  have hlen : T'.length = m + 1 + (n - m) := by rw [hT']; simp; omega
  obtain ⟨-, hcc, -, hrow2⟩ := own_row (w := w) hown hm (Nat.le_refl _)
  rw [← hlen] at hcc hrow2 ⊢
  have e6 : T'.flatMap nodeC = ((T.take m).flatMap nodeC ++ newC f kind kb) ++ (T.drop m).flatMap nodeC := by
    rw [hT', hkb]
    simp only [List.flatMap_append, List.flatMap_cons, List.append_assoc]
    rfl
  rw [← e6] at hrow2
  exact NodesSet.mk_ hr h1 hB hcc hrow2 (own_plain hown)
theorem Each.ins {F : Nat → Prop} {w : World} {vs : List Value} {bs : List (List UInt8)} (h : Each F w vs bs) (hl : vs.length = bs.length) (k : Nat) (hk : k ≤ bs.length) : Each F w ((vs.take k ++ [Value.slice none 0 0]) ++ vs.drop k) (bs.take k ++ [] :: bs.drop k) := by
  intro i b hb
  rw [List.append_assoc]
  by_cases hi : i < k
  · rw [List.getElem?_append_left (by rw [List.length_take]; omega), List.getElem?_take, if_pos hi] at hb ⊢
    exact h i b hb
  · rw [List.getElem?_append_right (by rw [List.length_take]; omega), List.length_take] at hb ⊢
    rw [hl]
    have e1 : min k bs.length = k := by omega
    rw [e1] at hb ⊢
    obtain ⟨j, hj⟩ : ∃ j, i - k = j := ⟨_, rfl⟩
    rw [hj] at hb ⊢
    cases j with
    | zero =>
      simp only [List.getElem?_cons_zero, Option.some.injEq] at hb
      subst hb
      exact ⟨none, 0, rfl, ⟨Nat.le_refl _, by simp [maxLen]⟩, RowAt.nil _ _ _⟩
    | succ j =>
      simp only [List.singleton_append, List.getElem?_cons_succ, List.getElem?_drop] at hb ⊢
      exact h _ b hb
theorem make_data {F : Nat → Prop} {w w1 u : World} {r : Nat} {x0 x1 x2 : Value} {T T' : TrM} {D D' : List (List UInt8)} {E : List Ent} {k m n c : Nat} {A : Option Addr} {vs ys : List Value} (h : RefP F w r T D E) (h1 : w.heap[r]? = some (.cells #[x0, x1, x2] 100 (0, 0))) (hm : NodesSet w r x1 x2 T' w1) (hB : Below w1.heap.size w1 u)
    (hD' : D' = D.take k ++ [] :: D.drop k ∧ D.length = n) (hk : k ≤ n) (he : Each (Off F r) w vs D) (hvl : vs.length = n) (hmk : m = k) (hys : ys = vs.take k)
    (hown : u.ownsRow w1.heap.size 51 1 (.slice A (m + 1 + (n - k)) c) (m + 1 + (n - k)) ((ys ++ [Value.slice none 0 0]) ++ vs.drop k)) (hmx : (m + 1 + (n - k)) * 1 ≤ maxLen) :
    RTurnP F w r T' D' E (.tuple #[]) (.returned (.tuple #[])) (u.setCell ⟨r, 1, none⟩ (.slice A (k + 1 + (n - k)) c)) := by
  subst hmk hys
  obtain ⟨hD', hDn⟩ := hD'
  have hlen : D'.length = m + 1 + (n - m) := by rw [hD']; simp; omega
  have hs1 := hm.1.size
  obtain ⟨-, hcc, -, hrow2⟩ := own_row (w := w) hown hmx hs1
  rw [Nat.mul_one] at hrow2
  rw [← hlen] at hcc hrow2 ⊢
  have hb2 := hB.size
  refine RefP.both_turn h h1 hm hB hcc hrow2 ?_ (.tuple #[])
  rw [hD']
  exact (Each.ins he (by omega) m (by omega)).move (by omega) fun b hb hbw => ⟨⟨.inl hb.1, hb.2⟩, (hB.block b (by omega)).trans (hm.1.block b hbw hb.2)⟩
theorem ins_rows {F : Nat → Prop} {w w1 : World} {b off n c k s : Nat} {vs : List Value} (h : RowAt F w (some ⟨b, off, none⟩) (n * s) vs) (hk : k ≤ n) (hcn : n ≤ c) (hb : Below w.heap.size w w1) :
    RowAt F w1 (some ⟨b, off, none⟩) (k * s) (vs.take (k * s)) ∧ RowAt F w1 (if c = k then some ⟨b, off, none⟩ else some ⟨b, off + k * s, none⟩) ((n - k) * s) (vs.drop (k * s)) := by
  have h1 := h.below hb (Nat.le_refl _)
  have h2 := h1.take (k * s)
  have hks : k * s ≤ n * s := Nat.mul_le_mul_right s (by omega)
  rw [Nat.min_eq_right hks] at h2
  have h4 := h1.drop (k * s)
  rw [← Nat.sub_mul] at h4
  refine ⟨h2, ?_⟩
  by_cases hce : c = k
  · rw [if_pos hce]
    have hl := h.length
    have hkn : k = n := by omega
    exact RowAt.zero _ _ _ (by rw [show n - k = 0 by omega, Nat.zero_mul]) (by rw [hkn]; exact List.drop_of_length_le (by omega))
  · rw [if_neg hce]; exact h4
section
variable {F : Nat → Prop} {r : Nat} {T : TrM}
theorem RTurn.noMk {w w' : World} {v : Int} (h : RefAt F w r T) (hb : Below w.heap.size w w') {q : (Int × Int) × TrM} (hq : q = ((0, v), T)) : RTurn F w r q.2 (.tuple #[.int .i64 q.1.1, .int .i64 q.1.2]) (.returned (.tuple #[.int .i64 0, .int .i64 v])) w' := by
  rw [hq]
  exact RTurnP.same h hb
set_option maxRecDepth 100000 in
set_option maxHeartbeats 16000000 in
theorem rmake_any {S : Nat → Prop} (a : Option Addr) (n0 c0 : Nat) (ls : List Nm) (kind : Int) (w : World) (h : RefAt F w r T) (hT : OkM T) (hS : StrsAt S w a n0 (ls.map strOf)) (hc : n0 ≤ c0) (hn8 : n0 ≤ 1000000) :
    Calls Tryz.prog 22 #[ptr r, .slice a n0 c0, .int .i64 kind] w (RTurn F w r (makeM T ls kind).2 (.tuple #[.int .i64 (makeM T ls kind).1.1, .int .i64 (makeM T ls kind).1.2])) := by
  have hE : (entsM T).length ≤ 1000000 := by have := ents_few hT; omega
  have H1 := Lib.hid (rright_any a n0 c0 ls w hS)
  have H3 := Lib.hid (fun w1 (hb : Below w.heap.size w w1) => rplace_any a n0 c0 ls w1 (h.below hb (Nat.le_refl _)) hT hE (hS.below hb (Nat.le_refl _)) hc hn8)
  have H5 := Lib.hid (fun w1 (hb : Below w.heap.size w w1) d nm => rentry_any d nm w1 (h.below hb (Nat.le_refl _)) hE)
  have HH := Lib.hid h
  have HT := Lib.hid hT
  have hr0 := h.low r h.own
  by_cases h0 : fineL ls = 0
  · rw [h0] at H1
    by_cases hkk : kind = 1 ∨ kind = 2
    · obtain ⟨kb, hkb⟩ : ∃ kb : Bool, (kind == 2) = kb := ⟨_, rfl⟩
      have hk12 : (kind != 1 && kind != 2) = false := by rcases hkk with rfl | rfl <;> rfl
      have hme : makeE T ls kind = if (placeM T ls).2.2 ≠ 0 then (placeM T ls).2.2 else if (aget (placeM T ls).2.1 (namesM T (placeM T ls).1)).isSome then 21 else if 64 ≤ T.length then 4 else 0 := by
        unfold makeE
        rw [h0, if_neg (by simp), if_neg (fun hh => hh hkk)]
      have hb1 : (kind != 1) = kb := by rw [← hkb]; rcases hkk with rfl | rfl <;> rfl
      have hb2 : (kind != 2) = !kb := by rw [← hkb]; rfl
      have HKB : Hid (kb = decide (kind = 2)) := by
        show kb = decide (kind = 2)
        rw [← hkb]
        rcases hkk with rfl | rfl <;> rfl
      by_cases h3 : (placeM T ls).2.2 = 0
      · have hpl : placeM T ls = ((placeM T ls).1, (placeM T ls).2.1, 0) := Prod.ext rfl (Prod.ext rfl h3)
        obtain ⟨x2, hx2, hxk2, -⟩ := placeM_spec hT h3
        rw [if_neg (by rw [h3]; simp)] at hme
        obtain ⟨d2, hd2⟩ : ∃ d2, d2 = (placeM T ls).1 := ⟨_, rfl⟩
        obtain ⟨n2, hn2⟩ : ∃ n2, n2 = (placeM T ls).2.1 := ⟨_, rfl⟩
        rw [← hd2, ← hn2] at hpl hme
        rw [← hd2] at hx2
        rw [hpl] at H3
        simp only at H3
        rw [namesM_of hx2] at hme
        have H5e := Lib.hid (fun w1 hb => H5.out w1 hb d2 n2)
        clear h3 hd2 hn2
        cases hn : aget n2 x2.names with
        | some j =>
          obtain ⟨m, hm1, hm2⟩ := ent_some hT.toOkP hx2 hn
          rw [hm1] at H5e
          rw [hn] at hme
          have m0 : ¬ (m : Int) < 0 := by omega
          have m1 : (0 : Int) ≤ m := by omega
          have HQ := Lib.hid (makeM_bad (hme.trans (if_pos rfl)) (by omega))
          clear h hT hS hE H5 hpl hx2 hxk2 hme hn hm1 hm2 h0 hkk hkb hk12 hc
          cases kb
          all_goals (
            go_enter Tryz.func22, Tryz.ntmps22
            go_wp2_with fail
            (with_reducible refine H1.out.mono ?_)
            rintro e w1 ⟨rfl, hb1⟩
            have HB1 := Lib.hid hb1
            clear hb1
            go_wp2_with fail
            (with_reducible refine (H3.out w1 HB1.out).mono ?_)
            rintro e w3 ⟨rfl, hb3⟩
            have HB3 := Lib.hid (HB1.out.trans (hb3.mono HB1.out.size))
            clear hb3
            go_wp2_with fail
            (with_reducible refine (H5e.out w3 HB3.out).mono ?_)
            rintro e w4 ⟨rfl, rfl⟩
            go_wp2_with fail
            go_ret2
            exact RTurn.noMk HH.out HB3.out HQ.out)
        | none =>
          rw [ent_none hT.sorted hx2 hn] at H5e
          rw [hn] at hme
          rw [if_neg (by simp)] at hme
          by_cases h64 : 64 ≤ T.length
          · have HQ := Lib.hid (makeM_bad (hme.trans (if_pos h64)) (by omega))
            obtain ⟨tl, htl⟩ : ∃ tl, tl = T.length := ⟨_, rfl⟩
            have HTL := Lib.hid htl
            have hd64 : decide (64 ≤ tl) = true := by rw [htl]; simpa using h64
            have hd64' : decide ((64 : Int) ≤ (tl : Int)) = true := by rw [htl]; simp; omega
            clear h hT hS hE H5 hpl hx2 hxk2 hme hn h0 hkk hkb hk12 hc h64 htl
            cases kb
            all_goals (
              go_enter Tryz.func22, Tryz.ntmps22
              go_wp2_with fail
              (with_reducible refine H1.out.mono ?_)
              rintro e w1 ⟨rfl, hb1⟩
              have HB1 := Lib.hid hb1
              clear hb1
              go_wp2_with fail
              (with_reducible refine (H3.out w1 HB1.out).mono ?_)
              rintro e w3 ⟨rfl, hb3⟩
              have HB3 := Lib.hid (HB1.out.trans (hb3.mono HB1.out.size))
              clear hb3
              go_wp2_with fail
              (with_reducible refine (H5e.out w3 HB3.out).mono ?_)
              rintro e w4 ⟨rfl, rfl⟩
              obtain ⟨aZ, cZ, z0, -⟩ := (HH.out.below HB3.out (Nat.le_refl _)).nodes
              rw [← HTL.out] at z0
              have hr3 : r < w3.heap.size := by have := HB3.out.size; omega
              go_wp2_with fail
              go_ret2
              exact RTurn.noMk HH.out HB3.out HQ.out)
          · rw [if_neg h64] at hme
            obtain ⟨f, hf0, hf1, hf2, hfn, hfs⟩ := hT.free
            have HQ : Hid (makeM T ls kind = (((f : Int), 0), setName (aput ilt (f : Int) (freshM kind) T) d2 n2 f)) := by
              show makeM T ls kind = _
              unfold makeM makeOk
              rw [hme, if_pos rfl, hpl, hf0]
            have HL0 := Lib.hid (Lax.of hT)
            have hdf : d2 ≠ (f : Int) := fun e => by rw [e, hfn] at hx2; cases hx2
            have HX1 : Hid (aget d2 (aput ilt (f : Int) (freshM kind) T) = some x2 ∧ aget n2 x2.names = none) := ⟨by rw [aget_aput, if_neg hdf]; exact hx2, hn⟩
            have HL1 : Hid (Lax (aput ilt (f : Int) (freshM kind) T)) := by
              refine ⟨hT.sorted.aput iltLaws _ _, fun q hq => ?_, by rw [length_aput _ hfn]; omega, by rw [ents_new hfn]; have := ents_few hT; omega⟩
              unfold aput at hq
              rw [adel_none hfn] at hq
              rcases (mem_ains ilt).1 hq with rfl | h2
              · simp [freshM, ASorted]
              · exact (Lax.of hT).names q h2
            have HFN := Lib.hid hfn
            have HFS := Lib.hid hfs
            have hlt64 : T.length < 64 := by omega
            obtain ⟨n, hne⟩ : ∃ n, n = T.length := ⟨_, rfl⟩
            have HNE := Lib.hid hne
            rw [← hne] at hlt64 hf2
            have hd64 : decide (64 ≤ n) = false := by simp; omega
            have hd64' : decide ((64 : Int) ≤ (n : Int)) = false := by simp; omega
            have HKBE := Lib.hid hkb
            have HFV := Lib.hid (by rfl : (f : Int) = (f : Int))
            clear h hT hS hE H5 hpl hx2 hxk2 hme hn h0 hkk hk12 hc h64 hf0 hfn hfs hne hdf
            cases kb with
            | false =>
              go_enter Tryz.func22, Tryz.ntmps22
              go_wp2_with fail
              (with_reducible refine H1.out.mono ?_)
              rintro e w1 ⟨rfl, hb1⟩
              have HB1 := Lib.hid hb1
              clear hb1
              go_wp2_with fail
              (with_reducible refine (H3.out w1 HB1.out).mono ?_)
              rintro e w3 ⟨rfl, hb3⟩
              have HB3 := Lib.hid (HB1.out.trans (hb3.mono HB1.out.size))
              clear hb3
              go_wp2_with fail
              (with_reducible refine (H5e.out w3 HB3.out).mono ?_)
              rintro e w4 ⟨rfl, rfl⟩
              have hR3 := HH.out.below HB3.out (Nat.le_refl _)
              have HAT := Lib.hid (fun i => rat_any i w3 hR3 (by have := HNE.out; omega))
              obtain ⟨aN, cN, aD, cD, aE, cE, h1, h2, h3, h4, h8, h9, h10, h11⟩ := hR3.head
              obtain ⟨p0, p1, p2, pf⟩ := head_facts h1
              rw [← HNE.out] at p0
              have hrw : r < w3.heap.size := hR3.low r hR3.own
              have HR3 := Lib.hid hR3
              have HP1 := Lib.hid h1
              have HR8 := Lib.hid h8
              have HR9 := Lib.hid h9
              have hNc : n ≤ cN := by have := HNE.out; omega
              have hDc : n ≤ cD := by have := HNE.out; rw [List.length_map] at h3; omega
              have hfr0 := pf 0
              clear hR3 h1 h2 h3 h4 h8 h9 h10 h11 p1 p2 pf
              go_wp2_with fail
              go_loop [11] (fun v => ∃ i : Nat, 1 ≤ i ∧ i ≤ f ∧ v = .int .i64 i) (fun v => f - (intOf v).toNat)
              case atStart => exact ⟨1, by omega, hf1, rfl⟩
              case round =>
                obtain ⟨i, hi1, hi2, rfl⟩ := hrel
                have HA := Lib.hid (HAT.out (i : Int))
                by_cases hlt : i < f
                · obtain ⟨y, hy⟩ := Option.isSome_iff_exists.1 (HFS.out i hi1 hlt)
                  obtain ⟨k, hk, -⟩ := idx_some HT.out.sorted hy
                  rw [hk] at HA
                  have m0 : ¬ (k : Int) < 0 := by omega
                  have m1 : (0 : Int) ≤ k := by omega
                  clear hy hk
                  go_wp2_with fail
                  (with_reducible refine HA.out.mono ?_)
                  rintro e w4 ⟨rfl, rfl⟩
                  go_wp2_with fail
                  go_round
                  case rel => exact ⟨i + 1, by omega, by omega, by go_num⟩
                  case measure => simp [intOf]; omega
                · obtain rfl : i = f := by omega
                  rw [idx_none HFN.out] at HA
                  clear hlt hi1 hi2
                  go_wp2_with fail
                  (with_reducible refine HA.out.mono ?_)
                  rintro e w4 ⟨rfl, rfl⟩
                  go_upto_block 2 with (fail)
                  go_cut [12] from 51 to 71 (fun v wx => MakeK T i w3 v wx)
                  case first =>
                    go_wp2_with fail
                    go_loop [12] (fun v => ∃ k : Nat, k ≤ n ∧ v = .int .i64 k ∧ (T.take k).all (fun q => decide (q.1 < (i : Int))) = true) (fun v => n - (intOf v).toNat)
                    case atStart => exact ⟨0, by omega, rfl, by simp⟩
                    case round =>
                      obtain ⟨k, hk, rfl, hall⟩ := hrel
                      have HALL := Lib.hid hall
                      clear hall
                      by_cases hlt : k < n
                      · have hx : T[k]? = some (T[k]'(by have := HNE.out; omega)) := List.getElem?_eq_getElem _
                        obtain ⟨q, hq⟩ : ∃ q, q = T[k]'(by have := HNE.out; omega) := ⟨_, rfl⟩
                        rw [← hq] at hx
                        have HXQ := Lib.hid hx
                        obtain ⟨b, off, rfl, hF, hb, hi, hcc⟩ := HR8.out.wide nodeC_len rfl hx (by omega)
                        have q0 : w3.cell? ⟨b, off + k * 6, none⟩ = some (.int .i64 q.1) := hcc 0 (by omega)
                        clear hx hq hcc
                        have i0 : (0 : Int) ≤ k := by omega
                        have i1 : (k : Int) < n := by omega
                        by_cases hp : q.1 < (i : Int)
                        · have e1 : decide (q.1 < (i : Int)) = true := by simpa using hp
                          have HST := Lib.hid (all_take_succ HALL.out HXQ.out e1)
                          clear hp
                          go_wp2
                          go_round
                          case rel => exact ⟨k + 1, by omega, by go_num, HST.out⟩
                          case measure => simp [intOf]; omega
                        · have e1 : decide (q.1 < (i : Int)) = false := by simpa using hp
                          have HMK := Lib.hid (MakeK.of (w := w3) HT.out.sorted HFN.out (by have := HNE.out; omega) HALL.out (fun x hx => by have := HXQ.out; rw [this] at hx; cases hx; exact e1))
                          clear hp
                          go_wp2
                          go_meet
                          exact HMK.out
                      · have HMK := Lib.hid (MakeK.of (w := w3) (k := k) HT.out.sorted HFN.out (by have := HNE.out; omega) HALL.out (fun x hx => by
                          have := HNE.out
                          rw [List.getElem?_eq_none (by omega)] at hx
                          cases hx))
                        go_wp2
                        go_meet
                        exact HMK.out
                  case rest =>
                    obtain ⟨k, hk, rfl, hput, rfl⟩ := hcut
                    have hkn : k ≤ n := by have := HNE.out; omega
                    have hn1 : 0 < n := by
                      obtain ⟨z, hz⟩ := Option.isSome_iff_exists.1 (root_there HT.out)
                      have := List.length_pos_of_mem (aget_mem hz)
                      have := HNE.out
                      omega
                    have h1 := HP1.out
                    rw [List.length_map, ← HNE.out] at h1
                    have h8 := HR8.out
                    rw [← HNE.out] at h8
                    obtain ⟨bN, oN, rfl, -, -, -⟩ := h8.at_ (by omega)
                    obtain ⟨vs, hv, hrowE⟩ := HR9.out
                    rw [List.length_map, ← HNE.out] at hv
                    obtain ⟨bD, oD, rfl, -, -, -⟩ := hv.at_ (by omega)
                    have hlv := hv.length
                    replace HP1 := Lib.hid h1
                    obtain ⟨p0, p1, p2, pf⟩ := head_facts h1
                    have HK6 : Hid (∀ w4, Below w3.heap.size w3 w4 → w4.cell? ⟨r, 0, none⟩ = some (.slice (some ⟨bN, oN, none⟩) n cN) ∧ w4.frozen? ⟨r, 0, none⟩ = false) := fun w4 hb => ⟨by rw [hb.cell (p := ⟨r, 0, none⟩) hrw]; exact p0, by rw [hb.frozen (p := ⟨r, 0, none⟩) hrw]; exact pf 0⟩
                    have HS6 : Hid (∀ w4, Below w3.heap.size w3 w4 → RowAt (Off F r) w4 (some ⟨bN, oN, none⟩) (k * 6) ((T.take k).flatMap nodeC) ∧ RowAt (Off F r) w4 (if cN = k then some ⟨bN, oN, none⟩ else some ⟨bN, oN + k * 6, none⟩) ((n - k) * 6) ((T.drop k).flatMap nodeC)) := fun w4 hb => by
                      have := ins_rows (c := cN) h8 hkn hNc hb
                      rwa [flatM_take nodeC 6 nodeC_len, flatM_drop nodeC 6 nodeC_len] at this
                    obtain ⟨i6, a6, b6, s6, d6⟩ := info_parts nodeInfo
                    have HI6 := Lib.hid (And.intro a6 (And.intro b6 (And.intro s6 d6)))
                    obtain ⟨i1, a1, b1, s1, d1⟩ := info_parts dataInfo
                    have HI1 := Lib.hid (And.intro a1 (And.intro b1 (And.intro s1 d1)))
                    have HV := Lib.hid hv
                    have HVL := Lib.hid hlv
                    have HEA : Hid (Each (Off F r) w3 vs (T.map fun q => q.2.b)) := hrowE
                    have HO1 := Lib.hid (And.intro (fun u hu => Each.one (F := Off F r) (w := w3) HEA.out (by rw [List.length_map, ← HNE.out]; exact hlv) u (List.mem_of_mem_take hu) : ∀ u ∈ vs.take k, u.oneCell' = true) (fun u hu => Each.one (F := Off F r) (w := w3) HEA.out (by rw [List.length_map, ← HNE.out]; exact hlv) u (List.mem_of_mem_drop hu) : ∀ u ∈ vs.drop k, u.oneCell' = true))
                    have HDL : Hid ((aput ilt (i : Int) (freshM kind) T).map (fun q => q.2.b) = (T.map fun q => q.2.b).take k ++ [] :: (T.map fun q => q.2.b).drop k ∧ (T.map fun q => q.2.b).length = n) := by
                      refine ⟨?_, by rw [List.length_map]; exact HNE.out.symm⟩
                      rw [hput, List.map_append, List.map_cons, List.map_take, List.map_drop]
                      rfl
                    have HFC : Hid (aput ilt (i : Int) (freshM kind) T = T.take k ++ ((i : Int), freshM kind) :: T.drop k ∧ false = decide (kind = 2)) := ⟨hput _, HKBE.out.symm⟩
                    have i0 : (0 : Int) ≤ k := by omega
                    have i1' : (k : Int) ≤ cN := by omega
                    have i2 : (k : Int) ≤ n := by omega
                    have i4 : (n : Int) ≤ cN := by omega
                    have i5 : (k : Int) ≤ cD := by omega
                    have i6' : (n : Int) ≤ cD := by omega
                    clear a6 b6 s6 d6 a1 b1 s1 d1 h1 h8 hv hrowE hlv p0 p1 p2 pf hput hk
                    go_upto_region 19 with (fail)
                    go_cut [] (fun wx => NodesSet w3 r (.slice (some ⟨bD, oD, none⟩) n cD) (.slice aE (entsM T).length cE) (aput ilt (i : Int) (freshM kind) T) wx)
                    case first =>
                      go_wp2
                      refine wp_region_noPanic ?_
                      refine wp_region_L (last := 25) (S := (fun w' => w'.cell? ⟨r, 0, none⟩ = some (.slice (some ⟨bN, oN, none⟩) n cN) ∧ w'.frozen? ⟨r, 0, none⟩ = false)) (by kernel_rfl) ?_ (fun hS => ?_)
                      · exact HK6.out _ (Below.refl _ _).drew
                      refine wpAnyL_take (i := 0) (oi := ?oi1) (v := ?v1) ?hi1 (by kernel_rfl) (by kernel_rfl) (by kernel_rfl) (by kernel_rfl) (by kernel_rfl) ?hq1 (Or.inl ⟨?hw1, ?hy1⟩) hS ?rest1
                      case hi1 => simp only [List.getElem?_toArray, List.getElem?_cons_succ, List.getElem?_cons_zero]; rfl
                      case hq1 => exact fun _ _ _ h => h
                      case hw1 => rfl
                      case hy1 => intro w hSw; (try dsimp only at hSw); go_simp; (try with_reducible rfl)
                      try simp only [Act.put, List.setIfInBounds_toArray, List.set_cons_zero, List.set_cons_succ]
                      refine wpAnyL_take (i := 2) (oi := ?oi2) (v := ?v2) ?hi2 (by kernel_rfl) (by kernel_rfl) (by kernel_rfl) (by kernel_rfl) (by kernel_rfl) ?hq2 (Or.inl ⟨?hw2, ?hy2⟩) hS ?rest2
                      case hi2 => simp only [List.getElem?_toArray, List.getElem?_cons_succ, List.getElem?_cons_zero]; rfl
                      case hq2 => exact fun _ _ _ h => h
                      case hw2 => rfl
                      case hy2 => intro w hSw; (try dsimp only at hSw); go_simp; (try with_reducible rfl)
                      try simp only [Act.put, List.setIfInBounds_toArray, List.set_cons_zero, List.set_cons_succ]
                      refine wpAnyL_take (i := 3) (oi := ?oi3) (v := ?v3) ?hi3 (by kernel_rfl) (by kernel_rfl) (by kernel_rfl) (by kernel_rfl) (by kernel_rfl) ?hq3 (Or.inl ⟨?hw3, ?hy3⟩) hS ?rest3
                      case hi3 => simp only [List.getElem?_toArray, List.getElem?_cons_succ, List.getElem?_cons_zero]; rfl
                      case hq3 => exact fun _ _ _ h => h
                      case hw3 => rfl
                      case hy3 => intro w hSw; (try dsimp only at hSw); go_simp; (try with_reducible rfl)
                      try simp only [Act.put, List.setIfInBounds_toArray, List.set_cons_zero, List.set_cons_succ]
                      refine wpAnyL_take (i := 4) (oi := ?oi4) (v := ?v4) ?hi4 (by kernel_rfl) (by kernel_rfl) (by kernel_rfl) (by kernel_rfl) (by kernel_rfl) ?hq4 (Or.inl ⟨?hw4, ?hy4⟩) hS ?rest4
                      case hi4 => simp only [List.getElem?_toArray, List.getElem?_cons_succ, List.getElem?_cons_zero]; rfl
                      case hq4 => exact fun _ _ _ h => h
                      case hw4 => rfl
                      case hy4 => intro w hSw; (try dsimp only at hSw); go_simp; (try with_reducible rfl)
                      try simp only [Act.put, List.setIfInBounds_toArray, List.set_cons_zero, List.set_cons_succ]
                      refine wpAnyL_take (i := 5) (oi := ?oi5) (v := ?v5) ?hi5 (by kernel_rfl) (by kernel_rfl) (by kernel_rfl) (by kernel_rfl) (by kernel_rfl) ?hq5 (Or.inl ⟨?hw5, ?hy5⟩) hS ?rest5
                      case hi5 => simp only [List.getElem?_toArray, List.getElem?_cons_succ, List.getElem?_cons_zero]; rfl
                      case hq5 => exact fun _ _ _ h => h
                      case hw5 => rfl
                      case hy5 => intro w hSw; (try dsimp only at hSw); go_simp; (try with_reducible rfl)
                      try simp only [Act.put, List.setIfInBounds_toArray, List.set_cons_zero, List.set_cons_succ]
                      refine wpAnyL_take (i := 6) (oi := ?oi6) (v := ?v6) ?hi6 (by kernel_rfl) (by kernel_rfl) (by kernel_rfl) (by kernel_rfl) (by kernel_rfl) ?hq6 (Or.inl ⟨?hw6, ?hy6⟩) hS ?rest6
                      case hi6 => simp only [List.getElem?_toArray, List.getElem?_cons_succ, List.getElem?_cons_zero]; rfl
                      case hq6 => exact fun _ _ _ h => h
                      case hw6 => rfl
                      case hy6 => intro w hSw; (try dsimp only at hSw); go_simp; (try with_reducible rfl)
                      try simp only [Act.put, List.setIfInBounds_toArray, List.set_cons_zero, List.set_cons_succ]
                      refine wpAnyL_take (i := 7) (oi := ?oi7) (v := ?v7) ?hi7 (by kernel_rfl) (by kernel_rfl) (by kernel_rfl) (by kernel_rfl) (by kernel_rfl) ?hq7 (Or.inl ⟨?hw7, ?hy7⟩) hS ?rest7
                      case hi7 => simp only [List.getElem?_toArray, List.getElem?_cons_succ, List.getElem?_cons_zero]; rfl
                      case hq7 => exact fun _ _ _ h => h
                      case hw7 => rfl
                      case hy7 => intro w hSw; (try dsimp only at hSw); go_simp; (try with_reducible rfl)
                      try simp only [Act.put, List.setIfInBounds_toArray, List.set_cons_zero, List.set_cons_succ]
                      refine wpAnyL_take (i := 9) (oi := ?oi8) (v := ?v8) ?hi8 (by kernel_rfl) (by kernel_rfl) (by kernel_rfl) (by kernel_rfl) (by kernel_rfl) ?hq8 (Or.inl ⟨?hw8, ?hy8⟩) hS ?rest8
                      case hi8 => simp only [List.getElem?_toArray, List.getElem?_cons_succ, List.getElem?_cons_zero]; rfl
                      case hq8 => exact fun _ _ _ h => h
                      case hw8 => rfl
                      case hy8 => intro w hSw; (try dsimp only at hSw); go_simp; (try with_reducible rfl)
                      try simp only [Act.put, List.setIfInBounds_toArray, List.set_cons_zero, List.set_cons_succ]
                      refine wpAnyL_take (i := 10) (oi := ?oi9) (v := ?v9) ?hi9 (by kernel_rfl) (by kernel_rfl) (by kernel_rfl) (by kernel_rfl) (by kernel_rfl) ?hq9 (Or.inl ⟨?hw9, ?hy9⟩) hS ?rest9
                      case hi9 => simp only [List.getElem?_toArray, List.getElem?_cons_succ, List.getElem?_cons_zero]; rfl
                      case hq9 => exact fun _ _ _ h => h
                      case hw9 => rfl
                      case hy9 => intro w hSw; (try dsimp only at hSw); go_simp; (try with_reducible rfl)
                      try simp only [Act.put, List.setIfInBounds_toArray, List.set_cons_zero, List.set_cons_succ]
                      refine wpAnyL_take (i := 11) (oi := ?oi10) (v := ?v10) ?hi10 (by kernel_rfl) (by kernel_rfl) (by kernel_rfl) (by kernel_rfl) (by kernel_rfl) ?hq10 (Or.inl ⟨?hw10, ?hy10⟩) hS ?rest10
                      case hi10 => simp only [List.getElem?_toArray, List.getElem?_cons_succ, List.getElem?_cons_zero]; rfl
                      case hq10 => exact fun _ _ _ h => h
                      case hw10 => rfl
                      case hy10 => intro w hSw; (try dsimp only at hSw); go_simp; (try with_reducible rfl)
                      try simp only [Act.put, List.setIfInBounds_toArray, List.set_cons_zero, List.set_cons_succ]
                      refine wpAnyL_take (i := 12) (oi := ?oi11) (v := ?v11) ?hi11 (by kernel_rfl) (by kernel_rfl) (by kernel_rfl) (by kernel_rfl) (by kernel_rfl) ?hq11 (Or.inl ⟨?hw11, ?hy11⟩) hS ?rest11
                      case hi11 => simp only [List.getElem?_toArray, List.getElem?_cons_succ, List.getElem?_cons_zero]; rfl
                      case hq11 => exact fun _ _ _ h => h
                      case hw11 => rfl
                      case hy11 => intro w hSw; (try dsimp only at hSw); go_simp; (try with_reducible rfl)
                      try simp only [Act.put, List.setIfInBounds_toArray, List.set_cons_zero, List.set_cons_succ]
                      refine wpAnyL_take (i := 13) (oi := ?oi12) (v := ?v12) ?hi12 (by kernel_rfl) (by kernel_rfl) (by kernel_rfl) (by kernel_rfl) (by kernel_rfl) ?hq12 (Or.inl ⟨?hw12, ?hy12⟩) hS ?rest12
                      case hi12 => simp only [List.getElem?_toArray, List.getElem?_cons_succ, List.getElem?_cons_zero]; rfl
                      case hq12 => exact fun _ _ _ h => h
                      case hw12 => rfl
                      case hy12 => intro w hSw; (try dsimp only at hSw); go_simp; (try with_reducible rfl)
                      try simp only [Act.put, List.setIfInBounds_toArray, List.set_cons_zero, List.set_cons_succ]
                      refine wpAnyL_take (i := 16) (oi := ?oi13) (v := ?v13) ?hi13 (by kernel_rfl) (by kernel_rfl) (by kernel_rfl) (by kernel_rfl) (by kernel_rfl) ?hq13 (Or.inl ⟨?hw13, ?hy13⟩) hS ?rest13
                      case hi13 => simp only [List.getElem?_toArray, List.getElem?_cons_succ, List.getElem?_cons_zero]; rfl
                      case hq13 => exact fun _ _ _ h => h
                      case hw13 => rfl
                      case hy13 => intro w hSw; (try dsimp only at hSw); go_simp; (try with_reducible rfl)
                      try simp only [Act.put, List.setIfInBounds_toArray, List.set_cons_zero, List.set_cons_succ]
                      refine wpAnyL_take (i := 17) (oi := ?oi14) (v := ?v14) ?hi14 (by kernel_rfl) (by kernel_rfl) (by kernel_rfl) (by kernel_rfl) (by kernel_rfl) ?hq14 (Or.inl ⟨?hw14, ?hy14⟩) hS ?rest14
                      case hi14 => simp only [List.getElem?_toArray, List.getElem?_cons_succ, List.getElem?_cons_zero]; rfl
                      case hq14 => exact fun _ _ _ h => h
                      case hw14 => rfl
                      case hy14 => intro w hSw; (try dsimp only at hSw); go_simp; (try with_reducible rfl)
                      try simp only [Act.put, List.setIfInBounds_toArray, List.set_cons_zero, List.set_cons_succ]
                      refine wpAnyL_take (i := 18) (oi := ?oi15) (v := ?v15) ?hi15 (by kernel_rfl) (by kernel_rfl) (by kernel_rfl) (by kernel_rfl) (by kernel_rfl) ?hq15 (Or.inl ⟨?hw15, ?hy15⟩) hS ?rest15
                      case hi15 => simp only [List.getElem?_toArray, List.getElem?_cons_succ, List.getElem?_cons_zero]; rfl
                      case hq15 => exact fun _ _ _ h => h
                      case hw15 => rfl
                      case hy15 => intro w hSw; (try dsimp only at hSw); go_simp; (try with_reducible rfl)
                      try simp only [Act.put, List.setIfInBounds_toArray, List.set_cons_zero, List.set_cons_succ]
                      refine wpAnyL_take (i := 19) (oi := ?oi16) (v := ?v16) ?hi16 (by kernel_rfl) (by kernel_rfl) (by kernel_rfl) (by kernel_rfl) (by kernel_rfl) ?hq16 (Or.inl ⟨?hw16, ?hy16⟩) hS ?rest16
                      case hi16 => simp only [List.getElem?_toArray, List.getElem?_cons_succ, List.getElem?_cons_zero]; rfl
                      case hq16 => exact fun _ _ _ h => h
                      case hw16 => rfl
                      case hy16 => intro w hSw; (try dsimp only at hSw); go_simp; (try with_reducible rfl)
                      try simp only [Act.put, List.setIfInBounds_toArray, List.set_cons_zero, List.set_cons_succ]
                      refine wpAnyL_take (i := 20) (oi := ?oi17) (v := ?v17) ?hi17 (by kernel_rfl) (by kernel_rfl) (by kernel_rfl) (by kernel_rfl) (by kernel_rfl) ?hq17 (Or.inl ⟨?hw17, ?hy17⟩) hS ?rest17
                      case hi17 => simp only [List.getElem?_toArray, List.getElem?_cons_succ, List.getElem?_cons_zero]; rfl
                      case hq17 => exact fun _ _ _ h => h
                      case hw17 => rfl
                      case hy17 => intro w hSw; (try dsimp only at hSw); go_simp; (try with_reducible rfl)
                      try simp only [Act.put, List.setIfInBounds_toArray, List.set_cons_zero, List.set_cons_succ]
                      refine wpAnyL_take (i := 21) (oi := ?oi18) (v := ?v18) ?hi18 (by kernel_rfl) (by kernel_rfl) (by kernel_rfl) (by kernel_rfl) (by kernel_rfl) ?hq18 (Or.inl ⟨?hw18, ?hy18⟩) hS ?rest18
                      case hi18 => simp only [List.getElem?_toArray, List.getElem?_cons_succ, List.getElem?_cons_zero]; rfl
                      case hq18 => exact fun _ _ _ h => h
                      case hw18 => rfl
                      case hy18 => intro w hSw; (try dsimp only at hSw); go_simp; (try with_reducible rfl)
                      try simp only [Act.put, List.setIfInBounds_toArray, List.set_cons_zero, List.set_cons_succ]
                      refine wpAnyL_ready (rs := [1, 14]) (by kernel_rfl) (by simp) ?_
                      refine AllReadyL.cons (o := ?o19) ?ho19 (fun K hK => ?wa) (AllReadyL.cons (o := ?o20) ?ho20 (fun K hK => ?wb) AllReadyL.nil)
                      case ho19 => simp only [List.getElem?_toArray, List.getElem?_cons_succ, List.getElem?_cons_zero]; rfl
                      case ho20 => simp only [List.getElem?_toArray, List.getElem?_cons_succ, List.getElem?_cons_zero]; rfl
                      case wa =>
                        go_simp
                        refine hK.out _ _ (fun _ => HK6.out _ ((Below.refl _ _).drew.alloc (Nat.le_refl _) _)) (fun hS => ?_)
                        replace hS := hS (by decide)
                        clear hK K
                        try simp only [Act.put, List.setIfInBounds_toArray, List.set_cons_zero, List.set_cons_succ]
                        refine wpAnyL_ready (rs := [8, 14]) (by kernel_rfl) (by simp) ?_
                        refine AllReadyL.cons (o := ?o21) ?ho21 (fun K hK => ?waa) (AllReadyL.cons (o := ?o22) ?ho22 (fun K hK => ?wab) AllReadyL.nil)
                        case ho21 => simp only [List.getElem?_toArray, List.getElem?_cons_succ, List.getElem?_cons_zero]; rfl
                        case ho22 => simp only [List.getElem?_toArray, List.getElem?_cons_succ, List.getElem?_cons_zero]; rfl
                        case waa =>
                          refine step_append_rows (by rfl) (.tmp 73) (.tmp 79) 97 (by rfl) w3.heap.size 29 _ _ 6 48 Tryz.underlying97 HI6.out.1 HI6.out.2.1 HI6.out.2.2.1 HI6.out.2.2.2 rfl (by omega) _ 0 [] (by rfl) (own_new (MapKept.heap_alloc w3.drew _).1 (Nat.le_refl _)) _ k _ ((T.take k).flatMap nodeC) (by rfl) (HS6.out _ ((Below.refl _ _).drew.alloc (Nat.le_refl _) _)).1 (nodeC_one _) (by unfold maxLen; omega) (by omega) (by simp <;> omega) ?_
                          intro A1 c1 u1 hown0 hb1
                          have hB0 : Below w3.heap.size w3 u1 := ((Below.refl _ _).drew.alloc (Nat.le_refl _) _).trans hb1
                          refine hK.out _ _ (fun _ => HK6.out _ hB0) (fun hS => ?_)
                          replace hS := hS (by decide)
                          clear hK K
                          try simp only [Act.put, List.setIfInBounds_toArray, List.set_cons_zero, List.set_cons_succ]
                          refine wpAnyL_ready (rs := [14]) (by kernel_rfl) (by simp) ?_
                          refine AllReadyL.cons (o := ?o23) ?ho23 (fun K hK => ?_) AllReadyL.nil
                          case ho23 => simp only [List.getElem?_toArray, List.getElem?_cons_succ, List.getElem?_cons_zero]; rfl
                          go_simp
                          refine hK.out _ _ (fun _ => HK6.out _ (hB0.alloc hB0.size _)) (fun hS => ?_)
                          replace hS := hS (by decide)
                          clear hK K
                          try simp only [Act.put, List.setIfInBounds_toArray, List.set_cons_zero, List.set_cons_succ]
                          rw [Nat.zero_add] at hown0
                          have hown1 := own_below hown0 ((Below.refl _ _).alloc (Nat.le_refl _) (.cells (newC (i : Int) kind false).toArray 29))
                          have hrow := new_row (w := u1) (newC (i : Int) kind false) 29 (by simp [newC, maxLen])
                          have hB1 : Below w3.heap.size w3 (u1.alloc (.cells (newC (i : Int) kind false).toArray 29)) := hB0.alloc hB0.size _
                          refine wpAnyL_ready (rs := [15]) (by kernel_rfl) (by simp) ?_
                          refine AllReadyL.cons (o := ?o24) ?ho24 (fun K hK => ?_) AllReadyL.nil
                          case ho24 => simp only [List.getElem?_toArray, List.getElem?_cons_succ, List.getElem?_cons_zero]; rfl
                          refine step_append_rows (by rfl) (.tmp 80) (.tmp 86) 97 (by rfl) w3.heap.size 29 _ _ 6 48 Tryz.underlying97 HI6.out.1 HI6.out.2.1 HI6.out.2.2.1 HI6.out.2.2.2 rfl (by omega) _ _ _ (by rfl) hown1 _ 1 _ (newC (i : Int) kind false) (by rfl) hrow (newC_one _ _ _) (by unfold maxLen; omega) (by omega) hB1.size ?_
                          intro A2 c2 u2 hown2 hb2
                          have hB2 : Below w3.heap.size w3 u2 := hB1.trans hb2
                          refine hK.out _ _ (fun _ => HK6.out _ hB2) (fun hS => ?_)
                          replace hS := hS (by decide)
                          clear hK K
                          try simp only [Act.put, List.setIfInBounds_toArray, List.set_cons_zero, List.set_cons_succ]
                          refine wpAnyL_ready (rs := [22]) (by kernel_rfl) (by simp) ?_
                          refine AllReadyL.cons (o := ?o25) ?ho25 (fun K hK => ?_) AllReadyL.nil
                          case ho25 => simp only [List.getElem?_toArray, List.getElem?_cons_succ, List.getElem?_cons_zero]; rfl
                          refine step_append_rows (by rfl) (.tmp 87) (.tmp 93) 97 (by rfl) w3.heap.size 29 _ _ 6 48 Tryz.underlying97 HI6.out.1 HI6.out.2.1 HI6.out.2.2.1 HI6.out.2.2.2 rfl (by omega) _ _ _ (by rfl) hown2 _ (n - k) _ ((T.drop k).flatMap nodeC) (by rfl) (HS6.out _ hB2).2 (nodeC_one _) (by unfold maxLen; omega) (by omega) hB2.size ?_
                          intro A3 c3 u3 hown3 hb3
                          have hB3u : Below w3.heap.size w3 u3 := hB2.trans hb3
                          refine hK.out _ _ (fun _ => HK6.out _ hB3u) (fun hS => ?_)
                          replace hS := hS (by decide)
                          clear hK K
                          try simp only [Act.put, List.setIfInBounds_toArray, List.set_cons_zero, List.set_cons_succ]
                          refine wpAnyL_take (i := 23) (oi := ?oi26) (v := ?v26) ?hi26 (by kernel_rfl) (by kernel_rfl) (by kernel_rfl) (by kernel_rfl) (by kernel_rfl) ?hq26 (Or.inl ⟨?hw26, ?hy26⟩) hS ?rest26
                          case hi26 => simp only [List.getElem?_toArray, List.getElem?_cons_succ, List.getElem?_cons_zero]; rfl
                          case hq26 => exact fun _ _ _ h => h
                          case hw26 => rfl
                          case hy26 => intro w hSw; (try dsimp only at hSw); go_simp; (try with_reducible rfl)
                          try simp only [Act.put, List.setIfInBounds_toArray, List.set_cons_zero, List.set_cons_succ]
                          refine wpAnyL_take (i := 24) (oi := ?oi27) (v := ?v27) ?hi27 (by kernel_rfl) (by kernel_rfl) (by kernel_rfl) (by kernel_rfl) (by kernel_rfl) ?hq27 (Or.inl ⟨?hw27, ?hy27⟩) hS ?rest27
                          case hi27 => simp only [List.getElem?_toArray, List.getElem?_cons_succ, List.getElem?_cons_zero]; rfl
                          case hq27 => exact fun _ _ _ h => h
                          case hw27 => rfl
                          case hy27 => intro w hSw; (try dsimp only at hSw); go_simp; (try with_reducible rfl)
                          try simp only [Act.put, List.setIfInBounds_toArray, List.set_cons_zero, List.set_cons_succ]
                          refine wpAnyL_ready (rs := [25]) (by kernel_rfl) (by simp) ?_
                          refine AllReadyL.cons (o := ?o28) ?ho28 (fun K hK => ?_) AllReadyL.nil
                          case ho28 => simp only [List.getElem?_toArray, List.getElem?_cons_succ, List.getElem?_cons_zero]; rfl
                          go_simp
                          refine hK.out _ _ (fun h => absurd rfl h) (fun hS => ?_)
                          clear hS hK K
                          try simp only [Act.put, List.setIfInBounds_toArray, List.set_cons_zero, List.set_cons_succ]
                          refine wpAnyL_done (by kernel_rfl) ?_ _
                          refine NoPanic.normal ?_
                          go_wp2_with fail
                          all_goals (
                            go_meet
                            exact make_nodes hrw HP1.out hB3u HFC.out HNE.out hkn (by omega) (by simp) hown3 (by unfold maxLen; omega))
                        case wab =>
                          go_simp
                          refine hK.out _ _ (fun _ => HK6.out _ (((Below.refl _ _).drew.alloc (Nat.le_refl _) _).alloc (by simp <;> omega) _)) (fun hS => ?_)
                          replace hS := hS (by decide)
                          clear hK K
                          try simp only [Act.put, List.setIfInBounds_toArray, List.set_cons_zero, List.set_cons_succ]
                          refine wpAnyL_ready (rs := [8]) (by kernel_rfl) (by simp) ?_
                          refine AllReadyL.cons (o := ?o29) ?ho29 (fun K hK => ?_) AllReadyL.nil
                          case ho29 => simp only [List.getElem?_toArray, List.getElem?_cons_succ, List.getElem?_cons_zero]; rfl
                          refine step_append_grown (by rfl) (.tmp 73) (.tmp 79) 97 (by rfl) w3.heap.size 29 _ _ 6 48 Tryz.underlying97 HI6.out.1 HI6.out.2.1 HI6.out.2.2.1 HI6.out.2.2.2 rfl (by omega) _ 0 [] (by rfl) (own_new (two_new w3 _ _).1 (Nat.le_refl _)) _ k _ ((T.take k).flatMap nodeC) (by rfl) (HS6.out _ (((Below.refl _ _).drew.alloc (Nat.le_refl _) _).alloc (by simp <;> omega) _)).1 (nodeC_one _) (by unfold maxLen; omega) (by omega) (by simp <;> omega) ?_
                          intro A1 c1 u1 hown1 hb1 hg1
                          have hB1 : Below w3.heap.size w3 u1 := (((Below.refl _ _).drew.alloc (Nat.le_refl _) _).alloc (by simp <;> omega) _).trans hb1
                          have hrow := (row_blk (vs := (newC (i : Int) kind false)) (two_new w3 (.cells #[] 29) (.cells (newC (i : Int) kind false).toArray 29)).2 (by simp [newC, maxLen])).grown hg1 (fun b hb hbw => by subst hb; simp [Value.ownBlock])
                          refine hK.out _ _ (fun _ => HK6.out _ hB1) (fun hS => ?_)
                          replace hS := hS (by decide)
                          clear hK K
                          try simp only [Act.put, List.setIfInBounds_toArray, List.set_cons_zero, List.set_cons_succ]
                          refine wpAnyL_ready (rs := [15]) (by kernel_rfl) (by simp) ?_
                          refine AllReadyL.cons (o := ?o30) ?ho30 (fun K hK => ?_) AllReadyL.nil
                          case ho30 => simp only [List.getElem?_toArray, List.getElem?_cons_succ, List.getElem?_cons_zero]; rfl
                          refine step_append_rows (by rfl) (.tmp 80) (.tmp 86) 97 (by rfl) w3.heap.size 29 _ _ 6 48 Tryz.underlying97 HI6.out.1 HI6.out.2.1 HI6.out.2.2.1 HI6.out.2.2.2 rfl (by omega) _ _ _ (by rfl) hown1 _ 1 _ (newC (i : Int) kind false) (by rfl) hrow (newC_one _ _ _) (by unfold maxLen; omega) (by omega) hB1.size ?_
                          intro A2 c2 u2 hown2 hb2
                          have hB2 : Below w3.heap.size w3 u2 := hB1.trans hb2
                          refine hK.out _ _ (fun _ => HK6.out _ hB2) (fun hS => ?_)
                          replace hS := hS (by decide)
                          clear hK K
                          try simp only [Act.put, List.setIfInBounds_toArray, List.set_cons_zero, List.set_cons_succ]
                          refine wpAnyL_ready (rs := [22]) (by kernel_rfl) (by simp) ?_
                          refine AllReadyL.cons (o := ?o31) ?ho31 (fun K hK => ?_) AllReadyL.nil
                          case ho31 => simp only [List.getElem?_toArray, List.getElem?_cons_succ, List.getElem?_cons_zero]; rfl
                          refine step_append_rows (by rfl) (.tmp 87) (.tmp 93) 97 (by rfl) w3.heap.size 29 _ _ 6 48 Tryz.underlying97 HI6.out.1 HI6.out.2.1 HI6.out.2.2.1 HI6.out.2.2.2 rfl (by omega) _ _ _ (by rfl) hown2 _ (n - k) _ ((T.drop k).flatMap nodeC) (by rfl) (HS6.out _ hB2).2 (nodeC_one _) (by unfold maxLen; omega) (by omega) hB2.size ?_
                          intro A3 c3 u3 hown3 hb3
                          have hB3u : Below w3.heap.size w3 u3 := hB2.trans hb3
                          refine hK.out _ _ (fun _ => HK6.out _ hB3u) (fun hS => ?_)
                          replace hS := hS (by decide)
                          clear hK K
                          try simp only [Act.put, List.setIfInBounds_toArray, List.set_cons_zero, List.set_cons_succ]
                          refine wpAnyL_take (i := 23) (oi := ?oi32) (v := ?v32) ?hi32 (by kernel_rfl) (by kernel_rfl) (by kernel_rfl) (by kernel_rfl) (by kernel_rfl) ?hq32 (Or.inl ⟨?hw32, ?hy32⟩) hS ?rest32
                          case hi32 => simp only [List.getElem?_toArray, List.getElem?_cons_succ, List.getElem?_cons_zero]; rfl
                          case hq32 => exact fun _ _ _ h => h
                          case hw32 => rfl
                          case hy32 => intro w hSw; (try dsimp only at hSw); go_simp; (try with_reducible rfl)
                          try simp only [Act.put, List.setIfInBounds_toArray, List.set_cons_zero, List.set_cons_succ]
                          refine wpAnyL_take (i := 24) (oi := ?oi33) (v := ?v33) ?hi33 (by kernel_rfl) (by kernel_rfl) (by kernel_rfl) (by kernel_rfl) (by kernel_rfl) ?hq33 (Or.inl ⟨?hw33, ?hy33⟩) hS ?rest33
                          case hi33 => simp only [List.getElem?_toArray, List.getElem?_cons_succ, List.getElem?_cons_zero]; rfl
                          case hq33 => exact fun _ _ _ h => h
                          case hw33 => rfl
                          case hy33 => intro w hSw; (try dsimp only at hSw); go_simp; (try with_reducible rfl)
                          try simp only [Act.put, List.setIfInBounds_toArray, List.set_cons_zero, List.set_cons_succ]
                          refine wpAnyL_ready (rs := [25]) (by kernel_rfl) (by simp) ?_
                          refine AllReadyL.cons (o := ?o34) ?ho34 (fun K hK => ?_) AllReadyL.nil
                          case ho34 => simp only [List.getElem?_toArray, List.getElem?_cons_succ, List.getElem?_cons_zero]; rfl
                          go_simp
                          refine hK.out _ _ (fun h => absurd rfl h) (fun hS => ?_)
                          clear hS hK K
                          try simp only [Act.put, List.setIfInBounds_toArray, List.set_cons_zero, List.set_cons_succ]
                          refine wpAnyL_done (by kernel_rfl) ?_ _
                          refine NoPanic.normal ?_
                          go_wp2_with fail
                          all_goals (
                            go_meet
                            exact make_nodes hrw HP1.out hB3u HFC.out HNE.out hkn (by omega) (by simp) hown3 (by unfold maxLen; omega))
                      case wb =>
                        go_simp
                        refine hK.out _ _ (fun _ => HK6.out _ ((Below.refl _ _).drew.alloc (Nat.le_refl _) _)) (fun hS => ?_)
                        replace hS := hS (by decide)
                        clear hK K
                        try simp only [Act.put, List.setIfInBounds_toArray, List.set_cons_zero, List.set_cons_succ]
                        refine wpAnyL_ready (rs := [1]) (by kernel_rfl) (by simp) ?_
                        refine AllReadyL.cons (o := ?o35) ?ho35 (fun K hK => ?_) AllReadyL.nil
                        case ho35 => simp only [List.getElem?_toArray, List.getElem?_cons_succ, List.getElem?_cons_zero]; rfl
                        go_simp
                        refine hK.out _ _ (fun _ => HK6.out _ (((Below.refl _ _).drew.alloc (Nat.le_refl _) _).alloc (by simp <;> omega) _)) (fun hS => ?_)
                        replace hS := hS (by decide)
                        clear hK K
                        try simp only [Act.put, List.setIfInBounds_toArray, List.set_cons_zero, List.set_cons_succ]
                        refine wpAnyL_ready (rs := [8]) (by kernel_rfl) (by simp) ?_
                        refine AllReadyL.cons (o := ?o36) ?ho36 (fun K hK => ?_) AllReadyL.nil
                        case ho36 => simp only [List.getElem?_toArray, List.getElem?_cons_succ, List.getElem?_cons_zero]; rfl
                        refine step_append_grown (by rfl) (.tmp 73) (.tmp 79) 97 (by rfl) w3.heap.size 29 _ _ 6 48 Tryz.underlying97 HI6.out.1 HI6.out.2.1 HI6.out.2.2.1 HI6.out.2.2.2 rfl (by omega) _ 0 [] (by rfl) (own_new (two_new w3 _ _).2 (by omega)) _ k _ ((T.take k).flatMap nodeC) (by rfl) (HS6.out _ (((Below.refl _ _).drew.alloc (Nat.le_refl _) _).alloc (by simp <;> omega) _)).1 (nodeC_one _) (by unfold maxLen; omega) (by omega) (by simp <;> omega) ?_
                        intro A1 c1 u1 hown1 hb1 hg1
                        have hB1 : Below w3.heap.size w3 u1 := (((Below.refl _ _).drew.alloc (Nat.le_refl _) _).alloc (by simp <;> omega) _).trans hb1
                        have hrow := (row_blk (vs := (newC (i : Int) kind false)) (two_new w3 (.cells (newC (i : Int) kind false).toArray 29) (.cells #[] 29)).1 (by simp [newC, maxLen])).grown hg1 (fun b hb hbw => by subst hb; simp [Value.ownBlock])
                        refine hK.out _ _ (fun _ => HK6.out _ hB1) (fun hS => ?_)
                        replace hS := hS (by decide)
                        clear hK K
                        try simp only [Act.put, List.setIfInBounds_toArray, List.set_cons_zero, List.set_cons_succ]
                        refine wpAnyL_ready (rs := [15]) (by kernel_rfl) (by simp) ?_
                        refine AllReadyL.cons (o := ?o37) ?ho37 (fun K hK => ?_) AllReadyL.nil
                        case ho37 => simp only [List.getElem?_toArray, List.getElem?_cons_succ, List.getElem?_cons_zero]; rfl
                        refine step_append_rows (by rfl) (.tmp 80) (.tmp 86) 97 (by rfl) w3.heap.size 29 _ _ 6 48 Tryz.underlying97 HI6.out.1 HI6.out.2.1 HI6.out.2.2.1 HI6.out.2.2.2 rfl (by omega) _ _ _ (by rfl) hown1 _ 1 _ (newC (i : Int) kind false) (by rfl) hrow (newC_one _ _ _) (by unfold maxLen; omega) (by omega) hB1.size ?_
                        intro A2 c2 u2 hown2 hb2
                        have hB2 : Below w3.heap.size w3 u2 := hB1.trans hb2
                        refine hK.out _ _ (fun _ => HK6.out _ hB2) (fun hS => ?_)
                        replace hS := hS (by decide)
                        clear hK K
                        try simp only [Act.put, List.setIfInBounds_toArray, List.set_cons_zero, List.set_cons_succ]
                        refine wpAnyL_ready (rs := [22]) (by kernel_rfl) (by simp) ?_
                        refine AllReadyL.cons (o := ?o38) ?ho38 (fun K hK => ?_) AllReadyL.nil
                        case ho38 => simp only [List.getElem?_toArray, List.getElem?_cons_succ, List.getElem?_cons_zero]; rfl
                        refine step_append_rows (by rfl) (.tmp 87) (.tmp 93) 97 (by rfl) w3.heap.size 29 _ _ 6 48 Tryz.underlying97 HI6.out.1 HI6.out.2.1 HI6.out.2.2.1 HI6.out.2.2.2 rfl (by omega) _ _ _ (by rfl) hown2 _ (n - k) _ ((T.drop k).flatMap nodeC) (by rfl) (HS6.out _ hB2).2 (nodeC_one _) (by unfold maxLen; omega) (by omega) hB2.size ?_
                        intro A3 c3 u3 hown3 hb3
                        have hB3u : Below w3.heap.size w3 u3 := hB2.trans hb3
                        refine hK.out _ _ (fun _ => HK6.out _ hB3u) (fun hS => ?_)
                        replace hS := hS (by decide)
                        clear hK K
                        try simp only [Act.put, List.setIfInBounds_toArray, List.set_cons_zero, List.set_cons_succ]
                        refine wpAnyL_take (i := 23) (oi := ?oi39) (v := ?v39) ?hi39 (by kernel_rfl) (by kernel_rfl) (by kernel_rfl) (by kernel_rfl) (by kernel_rfl) ?hq39 (Or.inl ⟨?hw39, ?hy39⟩) hS ?rest39
                        case hi39 => simp only [List.getElem?_toArray, List.getElem?_cons_succ, List.getElem?_cons_zero]; rfl
                        case hq39 => exact fun _ _ _ h => h
                        case hw39 => rfl
                        case hy39 => intro w hSw; (try dsimp only at hSw); go_simp; (try with_reducible rfl)
                        try simp only [Act.put, List.setIfInBounds_toArray, List.set_cons_zero, List.set_cons_succ]
                        refine wpAnyL_take (i := 24) (oi := ?oi40) (v := ?v40) ?hi40 (by kernel_rfl) (by kernel_rfl) (by kernel_rfl) (by kernel_rfl) (by kernel_rfl) ?hq40 (Or.inl ⟨?hw40, ?hy40⟩) hS ?rest40
                        case hi40 => simp only [List.getElem?_toArray, List.getElem?_cons_succ, List.getElem?_cons_zero]; rfl
                        case hq40 => exact fun _ _ _ h => h
                        case hw40 => rfl
                        case hy40 => intro w hSw; (try dsimp only at hSw); go_simp; (try with_reducible rfl)
                        try simp only [Act.put, List.setIfInBounds_toArray, List.set_cons_zero, List.set_cons_succ]
                        refine wpAnyL_ready (rs := [25]) (by kernel_rfl) (by simp) ?_
                        refine AllReadyL.cons (o := ?o41) ?ho41 (fun K hK => ?_) AllReadyL.nil
                        case ho41 => simp only [List.getElem?_toArray, List.getElem?_cons_succ, List.getElem?_cons_zero]; rfl
                        go_simp
                        refine hK.out _ _ (fun h => absurd rfl h) (fun hS => ?_)
                        clear hS hK K
                        try simp only [Act.put, List.setIfInBounds_toArray, List.set_cons_zero, List.set_cons_succ]
                        refine wpAnyL_done (by kernel_rfl) ?_ _
                        refine NoPanic.normal ?_
                        go_wp2_with fail
                        all_goals (
                          go_meet
                          exact make_nodes hrw HP1.out hB3u HFC.out HNE.out hkn (by omega) (by simp) hown3 (by unfold maxLen; omega))
                    case rest =>
                      obtain ⟨w5, rfl⟩ : ∃ w5 : World, w5 = wc := ⟨_, rfl⟩
                      have HM := Lib.hid hcut
                      obtain ⟨hK, -, aM, cM, h5, -, -, -⟩ := hcut
                      obtain ⟨p0, p1, p2, pf⟩ := head_facts h5
                      have hs1 := hK.size
                      have hr1 : r < w5.heap.size := by omega
                      have hv1 : RowAt (Off (Grow F w3 w5) r) w5 (some ⟨bD, oD, none⟩) (n * 1) vs := by rw [Nat.mul_one]; exact row_old hK HV.out
                      have HK1 : Hid (∀ w4, Below w5.heap.size w5 w4 → w4.cell? ⟨r, 1, none⟩ = some (.slice (some ⟨bD, oD, none⟩) n cD) ∧ w4.frozen? ⟨r, 1, none⟩ = false) := fun w4 hb => ⟨by rw [hb.cell (p := ⟨r, 1, none⟩) hr1]; exact p1, by rw [hb.frozen (p := ⟨r, 1, none⟩) hr1]; exact pf 1⟩
                      have HS1 : Hid (∀ w4, Below w5.heap.size w5 w4 → RowAt (Off (Grow F w3 w5) r) w4 (some ⟨bD, oD, none⟩) (k * 1) (vs.take k) ∧ RowAt (Off (Grow F w3 w5) r) w4 (if cD = k then some ⟨bD, oD, none⟩ else some ⟨bD, oD + k, none⟩) ((n - k) * 1) (vs.drop k)) := fun w4 hb => by
                        have := ins_rows (c := cD) hv1 hkn hDc hb
                        rw [Nat.mul_one] at this
                        simpa only [Nat.mul_one] using this
                      clear hK h5 p0 p1 p2 pf hv1
                      go_upto_region 20 with (fail)
                      go_cut [] (fun wx => RTurnP F w3 r (aput ilt (i : Int) (freshM kind) T) ((aput ilt (i : Int) (freshM kind) T).map fun q => q.2.b) (entsM T) (.tuple #[]) (.returned (.tuple #[])) wx)
                      case first =>
                        go_wp2
                        refine wp_region_noPanic ?_
                        refine wp_region_L (last := 20) (S := (fun w' => w'.cell? ⟨r, 1, none⟩ = some (.slice (some ⟨bD, oD, none⟩) n cD) ∧ w'.frozen? ⟨r, 1, none⟩ = false)) (by kernel_rfl) ?_ (fun hS => ?_)
                        · exact HK1.out _ (Below.refl _ _).drew
                        refine wpAnyL_take (i := 0) (oi := ?oi42) (v := ?v42) ?hi42 (by kernel_rfl) (by kernel_rfl) (by kernel_rfl) (by kernel_rfl) (by kernel_rfl) ?hq42 (Or.inl ⟨?hw42, ?hy42⟩) hS ?rest42
                        case hi42 => simp only [List.getElem?_toArray, List.getElem?_cons_succ, List.getElem?_cons_zero]; rfl
                        case hq42 => exact fun _ _ _ h => h
                        case hw42 => rfl
                        case hy42 => intro w hSw; (try dsimp only at hSw); go_simp; (try with_reducible rfl)
                        try simp only [Act.put, List.setIfInBounds_toArray, List.set_cons_zero, List.set_cons_succ]
                        refine wpAnyL_take (i := 2) (oi := ?oi43) (v := ?v43) ?hi43 (by kernel_rfl) (by kernel_rfl) (by kernel_rfl) (by kernel_rfl) (by kernel_rfl) ?hq43 (Or.inl ⟨?hw43, ?hy43⟩) hS ?rest43
                        case hi43 => simp only [List.getElem?_toArray, List.getElem?_cons_succ, List.getElem?_cons_zero]; rfl
                        case hq43 => exact fun _ _ _ h => h
                        case hw43 => rfl
                        case hy43 => intro w hSw; (try dsimp only at hSw); go_simp; (try with_reducible rfl)
                        try simp only [Act.put, List.setIfInBounds_toArray, List.set_cons_zero, List.set_cons_succ]
                        refine wpAnyL_take (i := 3) (oi := ?oi44) (v := ?v44) ?hi44 (by kernel_rfl) (by kernel_rfl) (by kernel_rfl) (by kernel_rfl) (by kernel_rfl) ?hq44 (Or.inl ⟨?hw44, ?hy44⟩) hS ?rest44
                        case hi44 => simp only [List.getElem?_toArray, List.getElem?_cons_succ, List.getElem?_cons_zero]; rfl
                        case hq44 => exact fun _ _ _ h => h
                        case hw44 => rfl
                        case hy44 => intro w hSw; (try dsimp only at hSw); go_simp; (try with_reducible rfl)
                        try simp only [Act.put, List.setIfInBounds_toArray, List.set_cons_zero, List.set_cons_succ]
                        refine wpAnyL_take (i := 4) (oi := ?oi45) (v := ?v45) ?hi45 (by kernel_rfl) (by kernel_rfl) (by kernel_rfl) (by kernel_rfl) (by kernel_rfl) ?hq45 (Or.inl ⟨?hw45, ?hy45⟩) hS ?rest45
                        case hi45 => simp only [List.getElem?_toArray, List.getElem?_cons_succ, List.getElem?_cons_zero]; rfl
                        case hq45 => exact fun _ _ _ h => h
                        case hw45 => rfl
                        case hy45 => intro w hSw; (try dsimp only at hSw); go_simp; (try with_reducible rfl)
                        try simp only [Act.put, List.setIfInBounds_toArray, List.set_cons_zero, List.set_cons_succ]
                        refine wpAnyL_take (i := 5) (oi := ?oi46) (v := ?v46) ?hi46 (by kernel_rfl) (by kernel_rfl) (by kernel_rfl) (by kernel_rfl) (by kernel_rfl) ?hq46 (Or.inl ⟨?hw46, ?hy46⟩) hS ?rest46
                        case hi46 => simp only [List.getElem?_toArray, List.getElem?_cons_succ, List.getElem?_cons_zero]; rfl
                        case hq46 => exact fun _ _ _ h => h
                        case hw46 => rfl
                        case hy46 => intro w hSw; (try dsimp only at hSw); go_simp; (try with_reducible rfl)
                        try simp only [Act.put, List.setIfInBounds_toArray, List.set_cons_zero, List.set_cons_succ]
                        refine wpAnyL_take (i := 6) (oi := ?oi47) (v := ?v47) ?hi47 (by kernel_rfl) (by kernel_rfl) (by kernel_rfl) (by kernel_rfl) (by kernel_rfl) ?hq47 (Or.inl ⟨?hw47, ?hy47⟩) hS ?rest47
                        case hi47 => simp only [List.getElem?_toArray, List.getElem?_cons_succ, List.getElem?_cons_zero]; rfl
                        case hq47 => exact fun _ _ _ h => h
                        case hw47 => rfl
                        case hy47 => intro w hSw; (try dsimp only at hSw); go_simp; (try with_reducible rfl)
                        try simp only [Act.put, List.setIfInBounds_toArray, List.set_cons_zero, List.set_cons_succ]
                        refine wpAnyL_take (i := 7) (oi := ?oi48) (v := ?v48) ?hi48 (by kernel_rfl) (by kernel_rfl) (by kernel_rfl) (by kernel_rfl) (by kernel_rfl) ?hq48 (Or.inl ⟨?hw48, ?hy48⟩) hS ?rest48
                        case hi48 => simp only [List.getElem?_toArray, List.getElem?_cons_succ, List.getElem?_cons_zero]; rfl
                        case hq48 => exact fun _ _ _ h => h
                        case hw48 => rfl
                        case hy48 => intro w hSw; (try dsimp only at hSw); go_simp; (try with_reducible rfl)
                        try simp only [Act.put, List.setIfInBounds_toArray, List.set_cons_zero, List.set_cons_succ]
                        refine wpAnyL_take (i := 11) (oi := ?oi49) (v := ?v49) ?hi49 (by kernel_rfl) (by kernel_rfl) (by kernel_rfl) (by kernel_rfl) (by kernel_rfl) ?hq49 (Or.inl ⟨?hw49, ?hy49⟩) hS ?rest49
                        case hi49 => simp only [List.getElem?_toArray, List.getElem?_cons_succ, List.getElem?_cons_zero]; rfl
                        case hq49 => exact fun _ _ _ h => h
                        case hw49 => rfl
                        case hy49 => intro w hSw; (try dsimp only at hSw); go_simp; (try with_reducible rfl)
                        try simp only [Act.put, List.setIfInBounds_toArray, List.set_cons_zero, List.set_cons_succ]
                        refine wpAnyL_take (i := 12) (oi := ?oi50) (v := ?v50) ?hi50 (by kernel_rfl) (by kernel_rfl) (by kernel_rfl) (by kernel_rfl) (by kernel_rfl) ?hq50 (Or.inl ⟨?hw50, ?hy50⟩) hS ?rest50
                        case hi50 => simp only [List.getElem?_toArray, List.getElem?_cons_succ, List.getElem?_cons_zero]; rfl
                        case hq50 => exact fun _ _ _ h => h
                        case hw50 => rfl
                        case hy50 => intro w hSw; (try dsimp only at hSw); go_simp; (try with_reducible rfl)
                        try simp only [Act.put, List.setIfInBounds_toArray, List.set_cons_zero, List.set_cons_succ]
                        refine wpAnyL_take (i := 13) (oi := ?oi51) (v := ?v51) ?hi51 (by kernel_rfl) (by kernel_rfl) (by kernel_rfl) (by kernel_rfl) (by kernel_rfl) ?hq51 (Or.inl ⟨?hw51, ?hy51⟩) hS ?rest51
                        case hi51 => simp only [List.getElem?_toArray, List.getElem?_cons_succ, List.getElem?_cons_zero]; rfl
                        case hq51 => exact fun _ _ _ h => h
                        case hw51 => rfl
                        case hy51 => intro w hSw; (try dsimp only at hSw); go_simp; (try with_reducible rfl)
                        try simp only [Act.put, List.setIfInBounds_toArray, List.set_cons_zero, List.set_cons_succ]
                        refine wpAnyL_take (i := 14) (oi := ?oi52) (v := ?v52) ?hi52 (by kernel_rfl) (by kernel_rfl) (by kernel_rfl) (by kernel_rfl) (by kernel_rfl) ?hq52 (Or.inl ⟨?hw52, ?hy52⟩) hS ?rest52
                        case hi52 => simp only [List.getElem?_toArray, List.getElem?_cons_succ, List.getElem?_cons_zero]; rfl
                        case hq52 => exact fun _ _ _ h => h
                        case hw52 => rfl
                        case hy52 => intro w hSw; (try dsimp only at hSw); go_simp; (try with_reducible rfl)
                        try simp only [Act.put, List.setIfInBounds_toArray, List.set_cons_zero, List.set_cons_succ]
                        refine wpAnyL_take (i := 15) (oi := ?oi53) (v := ?v53) ?hi53 (by kernel_rfl) (by kernel_rfl) (by kernel_rfl) (by kernel_rfl) (by kernel_rfl) ?hq53 (Or.inl ⟨?hw53, ?hy53⟩) hS ?rest53
                        case hi53 => simp only [List.getElem?_toArray, List.getElem?_cons_succ, List.getElem?_cons_zero]; rfl
                        case hq53 => exact fun _ _ _ h => h
                        case hw53 => rfl
                        case hy53 => intro w hSw; (try dsimp only at hSw); go_simp; (try with_reducible rfl)
                        try simp only [Act.put, List.setIfInBounds_toArray, List.set_cons_zero, List.set_cons_succ]
                        refine wpAnyL_take (i := 16) (oi := ?oi54) (v := ?v54) ?hi54 (by kernel_rfl) (by kernel_rfl) (by kernel_rfl) (by kernel_rfl) (by kernel_rfl) ?hq54 (Or.inl ⟨?hw54, ?hy54⟩) hS ?rest54
                        case hi54 => simp only [List.getElem?_toArray, List.getElem?_cons_succ, List.getElem?_cons_zero]; rfl
                        case hq54 => exact fun _ _ _ h => h
                        case hw54 => rfl
                        case hy54 => intro w hSw; (try dsimp only at hSw); go_simp; (try with_reducible rfl)
                        try simp only [Act.put, List.setIfInBounds_toArray, List.set_cons_zero, List.set_cons_succ]
                        refine wpAnyL_ready (rs := [1, 9]) (by kernel_rfl) (by simp) ?_
                        refine AllReadyL.cons (o := ?o55) ?ho55 (fun K hK => ?wa) (AllReadyL.cons (o := ?o56) ?ho56 (fun K hK => ?wb) AllReadyL.nil)
                        case ho55 => simp only [List.getElem?_toArray, List.getElem?_cons_succ, List.getElem?_cons_zero]; rfl
                        case ho56 => simp only [List.getElem?_toArray, List.getElem?_cons_succ, List.getElem?_cons_zero]; rfl
                        case wa =>
                          go_simp
                          refine hK.out _ _ (fun _ => HK1.out _ ((Below.refl _ _).drew.alloc (Nat.le_refl _) _)) (fun hS => ?_)
                          replace hS := hS (by decide)
                          clear hK K
                          try simp only [Act.put, List.setIfInBounds_toArray, List.set_cons_zero, List.set_cons_succ]
                          refine wpAnyL_ready (rs := [8, 9]) (by kernel_rfl) (by simp) ?_
                          refine AllReadyL.cons (o := ?o57) ?ho57 (fun K hK => ?waa) (AllReadyL.cons (o := ?o58) ?ho58 (fun K hK => ?wab) AllReadyL.nil)
                          case ho57 => simp only [List.getElem?_toArray, List.getElem?_cons_succ, List.getElem?_cons_zero]; rfl
                          case ho58 => simp only [List.getElem?_toArray, List.getElem?_cons_succ, List.getElem?_cons_zero]; rfl
                          case waa =>
                            refine step_append_rows (by rfl) (.tmp 98) (.tmp 104) 80 (by rfl) w5.heap.size 51 _ _ 1 24 Tryz.underlying80 HI1.out.1 HI1.out.2.1 HI1.out.2.2.1 HI1.out.2.2.2 rfl (by omega) _ 0 [] (by rfl) (own_new (MapKept.heap_alloc w5.drew _).1 (Nat.le_refl _)) _ k _ (vs.take k) (by rfl) (HS1.out _ ((Below.refl _ _).drew.alloc (Nat.le_refl _) _)).1 HO1.out.1 (by unfold maxLen; omega) (by omega) (by simp <;> omega) ?_
                            intro A1 c1 u1 hown0 hb1
                            have hB0 : Below w5.heap.size w5 u1 := ((Below.refl _ _).drew.alloc (Nat.le_refl _) _).trans hb1
                            refine hK.out _ _ (fun _ => HK1.out _ hB0) (fun hS => ?_)
                            replace hS := hS (by decide)
                            clear hK K
                            try simp only [Act.put, List.setIfInBounds_toArray, List.set_cons_zero, List.set_cons_succ]
                            refine wpAnyL_ready (rs := [9]) (by kernel_rfl) (by simp) ?_
                            refine AllReadyL.cons (o := ?o59) ?ho59 (fun K hK => ?_) AllReadyL.nil
                            case ho59 => simp only [List.getElem?_toArray, List.getElem?_cons_succ, List.getElem?_cons_zero]; rfl
                            go_simp
                            refine hK.out _ _ (fun _ => HK1.out _ (hB0.alloc hB0.size _)) (fun hS => ?_)
                            replace hS := hS (by decide)
                            clear hK K
                            try simp only [Act.put, List.setIfInBounds_toArray, List.set_cons_zero, List.set_cons_succ]
                            rw [Nat.zero_add] at hown0
                            have hown1 := own_below hown0 ((Below.refl _ _).alloc (Nat.le_refl _) (.cells [Value.slice none 0 0].toArray 51))
                            have hrow := new_row (w := u1) [Value.slice none 0 0] 51 (by simp [newC, maxLen])
                            have hB1 : Below w5.heap.size w5 (u1.alloc (.cells [Value.slice none 0 0].toArray 51)) := hB0.alloc hB0.size _
                            refine wpAnyL_ready (rs := [10]) (by kernel_rfl) (by simp) ?_
                            refine AllReadyL.cons (o := ?o60) ?ho60 (fun K hK => ?_) AllReadyL.nil
                            case ho60 => simp only [List.getElem?_toArray, List.getElem?_cons_succ, List.getElem?_cons_zero]; rfl
                            refine step_append_rows (by rfl) (.tmp 105) (.tmp 106) 80 (by rfl) w5.heap.size 51 _ _ 1 24 Tryz.underlying80 HI1.out.1 HI1.out.2.1 HI1.out.2.2.1 HI1.out.2.2.2 rfl (by omega) _ _ _ (by rfl) hown1 _ 1 _ [Value.slice none 0 0] (by rfl) hrow (by intro u hu; simp only [List.mem_singleton] at hu; subst hu; rfl) (by unfold maxLen; omega) (by omega) hB1.size ?_
                            intro A2 c2 u2 hown2 hb2
                            have hB2 : Below w5.heap.size w5 u2 := hB1.trans hb2
                            refine hK.out _ _ (fun _ => HK1.out _ hB2) (fun hS => ?_)
                            replace hS := hS (by decide)
                            clear hK K
                            try simp only [Act.put, List.setIfInBounds_toArray, List.set_cons_zero, List.set_cons_succ]
                            refine wpAnyL_ready (rs := [17]) (by kernel_rfl) (by simp) ?_
                            refine AllReadyL.cons (o := ?o61) ?ho61 (fun K hK => ?_) AllReadyL.nil
                            case ho61 => simp only [List.getElem?_toArray, List.getElem?_cons_succ, List.getElem?_cons_zero]; rfl
                            refine step_append_rows (by rfl) (.tmp 107) (.tmp 113) 80 (by rfl) w5.heap.size 51 _ _ 1 24 Tryz.underlying80 HI1.out.1 HI1.out.2.1 HI1.out.2.2.1 HI1.out.2.2.2 rfl (by omega) _ _ _ (by rfl) hown2 _ (n - k) _ (vs.drop k) (by rfl) (HS1.out _ hB2).2 HO1.out.2 (by unfold maxLen; omega) (by omega) hB2.size ?_
                            intro A3 c3 u3 hown3 hb3
                            have hB3u : Below w5.heap.size w5 u3 := hB2.trans hb3
                            refine hK.out _ _ (fun _ => HK1.out _ hB3u) (fun hS => ?_)
                            replace hS := hS (by decide)
                            clear hK K
                            try simp only [Act.put, List.setIfInBounds_toArray, List.set_cons_zero, List.set_cons_succ]
                            refine wpAnyL_take (i := 18) (oi := ?oi62) (v := ?v62) ?hi62 (by kernel_rfl) (by kernel_rfl) (by kernel_rfl) (by kernel_rfl) (by kernel_rfl) ?hq62 (Or.inl ⟨?hw62, ?hy62⟩) hS ?rest62
                            case hi62 => simp only [List.getElem?_toArray, List.getElem?_cons_succ, List.getElem?_cons_zero]; rfl
                            case hq62 => exact fun _ _ _ h => h
                            case hw62 => rfl
                            case hy62 => intro w hSw; (try dsimp only at hSw); go_simp; (try with_reducible rfl)
                            try simp only [Act.put, List.setIfInBounds_toArray, List.set_cons_zero, List.set_cons_succ]
                            refine wpAnyL_take (i := 19) (oi := ?oi63) (v := ?v63) ?hi63 (by kernel_rfl) (by kernel_rfl) (by kernel_rfl) (by kernel_rfl) (by kernel_rfl) ?hq63 (Or.inl ⟨?hw63, ?hy63⟩) hS ?rest63
                            case hi63 => simp only [List.getElem?_toArray, List.getElem?_cons_succ, List.getElem?_cons_zero]; rfl
                            case hq63 => exact fun _ _ _ h => h
                            case hw63 => rfl
                            case hy63 => intro w hSw; (try dsimp only at hSw); go_simp; (try with_reducible rfl)
                            try simp only [Act.put, List.setIfInBounds_toArray, List.set_cons_zero, List.set_cons_succ]
                            refine wpAnyL_ready (rs := [20]) (by kernel_rfl) (by simp) ?_
                            refine AllReadyL.cons (o := ?o64) ?ho64 (fun K hK => ?_) AllReadyL.nil
                            case ho64 => simp only [List.getElem?_toArray, List.getElem?_cons_succ, List.getElem?_cons_zero]; rfl
                            go_simp
                            refine hK.out _ _ (fun h => absurd rfl h) (fun hS => ?_)
                            clear hS hK K
                            try simp only [Act.put, List.setIfInBounds_toArray, List.set_cons_zero, List.set_cons_succ]
                            refine wpAnyL_done (by kernel_rfl) ?_ _
                            refine NoPanic.normal ?_
                            go_wp2_with fail
                            all_goals (
                              go_meet
                              exact make_data HR3.out HP1.out HM.out hB3u HDL.out hkn HEA.out HVL.out (by omega) (by simp) hown3 (by unfold maxLen; omega))
                          case wab =>
                            go_simp
                            refine hK.out _ _ (fun _ => HK1.out _ (((Below.refl _ _).drew.alloc (Nat.le_refl _) _).alloc (by simp <;> omega) _)) (fun hS => ?_)
                            replace hS := hS (by decide)
                            clear hK K
                            try simp only [Act.put, List.setIfInBounds_toArray, List.set_cons_zero, List.set_cons_succ]
                            refine wpAnyL_ready (rs := [8]) (by kernel_rfl) (by simp) ?_
                            refine AllReadyL.cons (o := ?o65) ?ho65 (fun K hK => ?_) AllReadyL.nil
                            case ho65 => simp only [List.getElem?_toArray, List.getElem?_cons_succ, List.getElem?_cons_zero]; rfl
                            refine step_append_grown (by rfl) (.tmp 98) (.tmp 104) 80 (by rfl) w5.heap.size 51 _ _ 1 24 Tryz.underlying80 HI1.out.1 HI1.out.2.1 HI1.out.2.2.1 HI1.out.2.2.2 rfl (by omega) _ 0 [] (by rfl) (own_new (two_new w5 _ _).1 (Nat.le_refl _)) _ k _ (vs.take k) (by rfl) (HS1.out _ (((Below.refl _ _).drew.alloc (Nat.le_refl _) _).alloc (by simp <;> omega) _)).1 HO1.out.1 (by unfold maxLen; omega) (by omega) (by simp <;> omega) ?_
                            intro A1 c1 u1 hown1 hb1 hg1
                            have hB1 : Below w5.heap.size w5 u1 := (((Below.refl _ _).drew.alloc (Nat.le_refl _) _).alloc (by simp <;> omega) _).trans hb1
                            have hrow := (row_blk (vs := [Value.slice none 0 0]) (two_new w5 (.cells #[] 51) (.cells [Value.slice none 0 0].toArray 51)).2 (by simp [newC, maxLen])).grown hg1 (fun b hb hbw => by subst hb; simp [Value.ownBlock])
                            refine hK.out _ _ (fun _ => HK1.out _ hB1) (fun hS => ?_)
                            replace hS := hS (by decide)
                            clear hK K
                            try simp only [Act.put, List.setIfInBounds_toArray, List.set_cons_zero, List.set_cons_succ]
                            refine wpAnyL_ready (rs := [10]) (by kernel_rfl) (by simp) ?_
                            refine AllReadyL.cons (o := ?o66) ?ho66 (fun K hK => ?_) AllReadyL.nil
                            case ho66 => simp only [List.getElem?_toArray, List.getElem?_cons_succ, List.getElem?_cons_zero]; rfl
                            refine step_append_rows (by rfl) (.tmp 105) (.tmp 106) 80 (by rfl) w5.heap.size 51 _ _ 1 24 Tryz.underlying80 HI1.out.1 HI1.out.2.1 HI1.out.2.2.1 HI1.out.2.2.2 rfl (by omega) _ _ _ (by rfl) hown1 _ 1 _ [Value.slice none 0 0] (by rfl) hrow (by intro u hu; simp only [List.mem_singleton] at hu; subst hu; rfl) (by unfold maxLen; omega) (by omega) hB1.size ?_
                            intro A2 c2 u2 hown2 hb2
                            have hB2 : Below w5.heap.size w5 u2 := hB1.trans hb2
                            refine hK.out _ _ (fun _ => HK1.out _ hB2) (fun hS => ?_)
                            replace hS := hS (by decide)
                            clear hK K
                            try simp only [Act.put, List.setIfInBounds_toArray, List.set_cons_zero, List.set_cons_succ]
                            refine wpAnyL_ready (rs := [17]) (by kernel_rfl) (by simp) ?_
                            refine AllReadyL.cons (o := ?o67) ?ho67 (fun K hK => ?_) AllReadyL.nil
                            case ho67 => simp only [List.getElem?_toArray, List.getElem?_cons_succ, List.getElem?_cons_zero]; rfl
                            refine step_append_rows (by rfl) (.tmp 107) (.tmp 113) 80 (by rfl) w5.heap.size 51 _ _ 1 24 Tryz.underlying80 HI1.out.1 HI1.out.2.1 HI1.out.2.2.1 HI1.out.2.2.2 rfl (by omega) _ _ _ (by rfl) hown2 _ (n - k) _ (vs.drop k) (by rfl) (HS1.out _ hB2).2 HO1.out.2 (by unfold maxLen; omega) (by omega) hB2.size ?_
                            intro A3 c3 u3 hown3 hb3
                            have hB3u : Below w5.heap.size w5 u3 := hB2.trans hb3
                            refine hK.out _ _ (fun _ => HK1.out _ hB3u) (fun hS => ?_)
                            replace hS := hS (by decide)
                            clear hK K
                            try simp only [Act.put, List.setIfInBounds_toArray, List.set_cons_zero, List.set_cons_succ]
                            refine wpAnyL_take (i := 18) (oi := ?oi68) (v := ?v68) ?hi68 (by kernel_rfl) (by kernel_rfl) (by kernel_rfl) (by kernel_rfl) (by kernel_rfl) ?hq68 (Or.inl ⟨?hw68, ?hy68⟩) hS ?rest68
                            case hi68 => simp only [List.getElem?_toArray, List.getElem?_cons_succ, List.getElem?_cons_zero]; rfl
                            case hq68 => exact fun _ _ _ h => h
                            case hw68 => rfl
                            case hy68 => intro w hSw; (try dsimp only at hSw); go_simp; (try with_reducible rfl)
                            try simp only [Act.put, List.setIfInBounds_toArray, List.set_cons_zero, List.set_cons_succ]
                            refine wpAnyL_take (i := 19) (oi := ?oi69) (v := ?v69) ?hi69 (by kernel_rfl) (by kernel_rfl) (by kernel_rfl) (by kernel_rfl) (by kernel_rfl) ?hq69 (Or.inl ⟨?hw69, ?hy69⟩) hS ?rest69
                            case hi69 => simp only [List.getElem?_toArray, List.getElem?_cons_succ, List.getElem?_cons_zero]; rfl
                            case hq69 => exact fun _ _ _ h => h
                            case hw69 => rfl
                            case hy69 => intro w hSw; (try dsimp only at hSw); go_simp; (try with_reducible rfl)
                            try simp only [Act.put, List.setIfInBounds_toArray, List.set_cons_zero, List.set_cons_succ]
                            refine wpAnyL_ready (rs := [20]) (by kernel_rfl) (by simp) ?_
                            refine AllReadyL.cons (o := ?o70) ?ho70 (fun K hK => ?_) AllReadyL.nil
                            case ho70 => simp only [List.getElem?_toArray, List.getElem?_cons_succ, List.getElem?_cons_zero]; rfl
                            go_simp
                            refine hK.out _ _ (fun h => absurd rfl h) (fun hS => ?_)
                            clear hS hK K
                            try simp only [Act.put, List.setIfInBounds_toArray, List.set_cons_zero, List.set_cons_succ]
                            refine wpAnyL_done (by kernel_rfl) ?_ _
                            refine NoPanic.normal ?_
                            go_wp2_with fail
                            all_goals (
                              go_meet
                              exact make_data HR3.out HP1.out HM.out hB3u HDL.out hkn HEA.out HVL.out (by omega) (by simp) hown3 (by unfold maxLen; omega))
                        case wb =>
                          go_simp
                          refine hK.out _ _ (fun _ => HK1.out _ ((Below.refl _ _).drew.alloc (Nat.le_refl _) _)) (fun hS => ?_)
                          replace hS := hS (by decide)
                          clear hK K
                          try simp only [Act.put, List.setIfInBounds_toArray, List.set_cons_zero, List.set_cons_succ]
                          refine wpAnyL_ready (rs := [1]) (by kernel_rfl) (by simp) ?_
                          refine AllReadyL.cons (o := ?o71) ?ho71 (fun K hK => ?_) AllReadyL.nil
                          case ho71 => simp only [List.getElem?_toArray, List.getElem?_cons_succ, List.getElem?_cons_zero]; rfl
                          go_simp
                          refine hK.out _ _ (fun _ => HK1.out _ (((Below.refl _ _).drew.alloc (Nat.le_refl _) _).alloc (by simp <;> omega) _)) (fun hS => ?_)
                          replace hS := hS (by decide)
                          clear hK K
                          try simp only [Act.put, List.setIfInBounds_toArray, List.set_cons_zero, List.set_cons_succ]
                          refine wpAnyL_ready (rs := [8]) (by kernel_rfl) (by simp) ?_
                          refine AllReadyL.cons (o := ?o72) ?ho72 (fun K hK => ?_) AllReadyL.nil
                          case ho72 => simp only [List.getElem?_toArray, List.getElem?_cons_succ, List.getElem?_cons_zero]; rfl
                          refine step_append_grown (by rfl) (.tmp 98) (.tmp 104) 80 (by rfl) w5.heap.size 51 _ _ 1 24 Tryz.underlying80 HI1.out.1 HI1.out.2.1 HI1.out.2.2.1 HI1.out.2.2.2 rfl (by omega) _ 0 [] (by rfl) (own_new (two_new w5 _ _).2 (by omega)) _ k _ (vs.take k) (by rfl) (HS1.out _ (((Below.refl _ _).drew.alloc (Nat.le_refl _) _).alloc (by simp <;> omega) _)).1 HO1.out.1 (by unfold maxLen; omega) (by omega) (by simp <;> omega) ?_
                          intro A1 c1 u1 hown1 hb1 hg1
                          have hB1 : Below w5.heap.size w5 u1 := (((Below.refl _ _).drew.alloc (Nat.le_refl _) _).alloc (by simp <;> omega) _).trans hb1
                          have hrow := (row_blk (vs := [Value.slice none 0 0]) (two_new w5 (.cells [Value.slice none 0 0].toArray 51) (.cells #[] 51)).1 (by simp [newC, maxLen])).grown hg1 (fun b hb hbw => by subst hb; simp [Value.ownBlock])
                          refine hK.out _ _ (fun _ => HK1.out _ hB1) (fun hS => ?_)
                          replace hS := hS (by decide)
                          clear hK K
                          try simp only [Act.put, List.setIfInBounds_toArray, List.set_cons_zero, List.set_cons_succ]
                          refine wpAnyL_ready (rs := [10]) (by kernel_rfl) (by simp) ?_
                          refine AllReadyL.cons (o := ?o73) ?ho73 (fun K hK => ?_) AllReadyL.nil
                          case ho73 => simp only [List.getElem?_toArray, List.getElem?_cons_succ, List.getElem?_cons_zero]; rfl
                          refine step_append_rows (by rfl) (.tmp 105) (.tmp 106) 80 (by rfl) w5.heap.size 51 _ _ 1 24 Tryz.underlying80 HI1.out.1 HI1.out.2.1 HI1.out.2.2.1 HI1.out.2.2.2 rfl (by omega) _ _ _ (by rfl) hown1 _ 1 _ [Value.slice none 0 0] (by rfl) hrow (by intro u hu; simp only [List.mem_singleton] at hu; subst hu; rfl) (by unfold maxLen; omega) (by omega) hB1.size ?_
                          intro A2 c2 u2 hown2 hb2
                          have hB2 : Below w5.heap.size w5 u2 := hB1.trans hb2
                          refine hK.out _ _ (fun _ => HK1.out _ hB2) (fun hS => ?_)
                          replace hS := hS (by decide)
                          clear hK K
                          try simp only [Act.put, List.setIfInBounds_toArray, List.set_cons_zero, List.set_cons_succ]
                          refine wpAnyL_ready (rs := [17]) (by kernel_rfl) (by simp) ?_
                          refine AllReadyL.cons (o := ?o74) ?ho74 (fun K hK => ?_) AllReadyL.nil
                          case ho74 => simp only [List.getElem?_toArray, List.getElem?_cons_succ, List.getElem?_cons_zero]; rfl
                          refine step_append_rows (by rfl) (.tmp 107) (.tmp 113) 80 (by rfl) w5.heap.size 51 _ _ 1 24 Tryz.underlying80 HI1.out.1 HI1.out.2.1 HI1.out.2.2.1 HI1.out.2.2.2 rfl (by omega) _ _ _ (by rfl) hown2 _ (n - k) _ (vs.drop k) (by rfl) (HS1.out _ hB2).2 HO1.out.2 (by unfold maxLen; omega) (by omega) hB2.size ?_
                          intro A3 c3 u3 hown3 hb3
                          have hB3u : Below w5.heap.size w5 u3 := hB2.trans hb3
                          refine hK.out _ _ (fun _ => HK1.out _ hB3u) (fun hS => ?_)
                          replace hS := hS (by decide)
                          clear hK K
                          try simp only [Act.put, List.setIfInBounds_toArray, List.set_cons_zero, List.set_cons_succ]
                          refine wpAnyL_take (i := 18) (oi := ?oi75) (v := ?v75) ?hi75 (by kernel_rfl) (by kernel_rfl) (by kernel_rfl) (by kernel_rfl) (by kernel_rfl) ?hq75 (Or.inl ⟨?hw75, ?hy75⟩) hS ?rest75
                          case hi75 => simp only [List.getElem?_toArray, List.getElem?_cons_succ, List.getElem?_cons_zero]; rfl
                          case hq75 => exact fun _ _ _ h => h
                          case hw75 => rfl
                          case hy75 => intro w hSw; (try dsimp only at hSw); go_simp; (try with_reducible rfl)
                          try simp only [Act.put, List.setIfInBounds_toArray, List.set_cons_zero, List.set_cons_succ]
                          refine wpAnyL_take (i := 19) (oi := ?oi76) (v := ?v76) ?hi76 (by kernel_rfl) (by kernel_rfl) (by kernel_rfl) (by kernel_rfl) (by kernel_rfl) ?hq76 (Or.inl ⟨?hw76, ?hy76⟩) hS ?rest76
                          case hi76 => simp only [List.getElem?_toArray, List.getElem?_cons_succ, List.getElem?_cons_zero]; rfl
                          case hq76 => exact fun _ _ _ h => h
                          case hw76 => rfl
                          case hy76 => intro w hSw; (try dsimp only at hSw); go_simp; (try with_reducible rfl)
                          try simp only [Act.put, List.setIfInBounds_toArray, List.set_cons_zero, List.set_cons_succ]
                          refine wpAnyL_ready (rs := [20]) (by kernel_rfl) (by simp) ?_
                          refine AllReadyL.cons (o := ?o77) ?ho77 (fun K hK => ?_) AllReadyL.nil
                          case ho77 => simp only [List.getElem?_toArray, List.getElem?_cons_succ, List.getElem?_cons_zero]; rfl
                          go_simp
                          refine hK.out _ _ (fun h => absurd rfl h) (fun hS => ?_)
                          clear hS hK K
                          try simp only [Act.put, List.setIfInBounds_toArray, List.set_cons_zero, List.set_cons_succ]
                          refine wpAnyL_done (by kernel_rfl) ?_ _
                          refine NoPanic.normal ?_
                          go_wp2_with fail
                          all_goals (
                            go_meet
                            exact make_data HR3.out HP1.out HM.out hB3u HDL.out hkn HEA.out HVL.out (by omega) (by simp) hown3 (by unfold maxLen; omega))
                      case rest =>
                        obtain ⟨w6, rfl⟩ : ∃ w6 : World, w6 = wc := ⟨_, rfl⟩
                        rw [← ents_new HFN.out] at hcut
                        have HT6 : Hid (RTurn F w3 r (aput ilt (i : Int) (freshM kind) T) (.tuple #[]) (.returned (.tuple #[])) w6) := hcut
                        have HAD := Lib.hid (radd_tr d2 n2 i x2 w6 HT6.out.2.2 HL1.out HX1.out.1 HX1.out.2)
                        clear hcut
                        go_wp2_with fail
                        (with_reducible refine HAD.out.mono ?_)
                        rintro e w7 ht7
                        have HT7 := Lib.hid ht7
                        obtain rfl := ht7.1
                        clear ht7
                        go_wp2_with fail
                        go_ret2
                        rw [HQ.out]
                        exact (RTurnP.behind HH.out.low HB3.out (HT6.out.trans HR3.out.low HT7.out)).val _
            | true =>
              go_enter Tryz.func22, Tryz.ntmps22
              go_wp2_with fail
              (with_reducible refine H1.out.mono ?_)
              rintro e w1 ⟨rfl, hb1⟩
              have HB1 := Lib.hid hb1
              clear hb1
              go_wp2_with fail
              (with_reducible refine (H3.out w1 HB1.out).mono ?_)
              rintro e w3 ⟨rfl, hb3⟩
              have HB3 := Lib.hid (HB1.out.trans (hb3.mono HB1.out.size))
              clear hb3
              go_wp2_with fail
              (with_reducible refine (H5e.out w3 HB3.out).mono ?_)
              rintro e w4 ⟨rfl, rfl⟩
              have hR3 := HH.out.below HB3.out (Nat.le_refl _)
              have HAT := Lib.hid (fun i => rat_any i w3 hR3 (by have := HNE.out; omega))
              obtain ⟨aN, cN, aD, cD, aE, cE, h1, h2, h3, h4, h8, h9, h10, h11⟩ := hR3.head
              obtain ⟨p0, p1, p2, pf⟩ := head_facts h1
              rw [← HNE.out] at p0
              have hrw : r < w3.heap.size := hR3.low r hR3.own
              have HR3 := Lib.hid hR3
              have HP1 := Lib.hid h1
              have HR8 := Lib.hid h8
              have HR9 := Lib.hid h9
              have hNc : n ≤ cN := by have := HNE.out; omega
              have hDc : n ≤ cD := by have := HNE.out; rw [List.length_map] at h3; omega
              have hfr0 := pf 0
              clear hR3 h1 h2 h3 h4 h8 h9 h10 h11 p1 p2 pf
              go_wp2_with fail
              go_loop [11] (fun v => ∃ i : Nat, 1 ≤ i ∧ i ≤ f ∧ v = .int .i64 i) (fun v => f - (intOf v).toNat)
              case atStart => exact ⟨1, by omega, hf1, rfl⟩
              case round =>
                obtain ⟨i, hi1, hi2, rfl⟩ := hrel
                have HA := Lib.hid (HAT.out (i : Int))
                by_cases hlt : i < f
                · obtain ⟨y, hy⟩ := Option.isSome_iff_exists.1 (HFS.out i hi1 hlt)
                  obtain ⟨k, hk, -⟩ := idx_some HT.out.sorted hy
                  rw [hk] at HA
                  have m0 : ¬ (k : Int) < 0 := by omega
                  have m1 : (0 : Int) ≤ k := by omega
                  clear hy hk
                  go_wp2_with fail
                  (with_reducible refine HA.out.mono ?_)
                  rintro e w4 ⟨rfl, rfl⟩
                  go_wp2_with fail
                  go_round
                  case rel => exact ⟨i + 1, by omega, by omega, by go_num⟩
                  case measure => simp [intOf]; omega
                · obtain rfl : i = f := by omega
                  rw [idx_none HFN.out] at HA
                  clear hlt hi1 hi2
                  go_wp2_with fail
                  (with_reducible refine HA.out.mono ?_)
                  rintro e w4 ⟨rfl, rfl⟩
                  go_upto_block 2 with (fail)
                  go_cut [12] from 51 to 71 (fun v wx => MakeK T i w3 v wx)
                  case first =>
                    go_wp2_with fail
                    go_loop [12] (fun v => ∃ k : Nat, k ≤ n ∧ v = .int .i64 k ∧ (T.take k).all (fun q => decide (q.1 < (i : Int))) = true) (fun v => n - (intOf v).toNat)
                    case atStart => exact ⟨0, by omega, rfl, by simp⟩
                    case round =>
                      obtain ⟨k, hk, rfl, hall⟩ := hrel
                      have HALL := Lib.hid hall
                      clear hall
                      by_cases hlt : k < n
                      · have hx : T[k]? = some (T[k]'(by have := HNE.out; omega)) := List.getElem?_eq_getElem _
                        obtain ⟨q, hq⟩ : ∃ q, q = T[k]'(by have := HNE.out; omega) := ⟨_, rfl⟩
                        rw [← hq] at hx
                        have HXQ := Lib.hid hx
                        obtain ⟨b, off, rfl, hF, hb, hi, hcc⟩ := HR8.out.wide nodeC_len rfl hx (by omega)
                        have q0 : w3.cell? ⟨b, off + k * 6, none⟩ = some (.int .i64 q.1) := hcc 0 (by omega)
                        clear hx hq hcc
                        have i0 : (0 : Int) ≤ k := by omega
                        have i1 : (k : Int) < n := by omega
                        by_cases hp : q.1 < (i : Int)
                        · have e1 : decide (q.1 < (i : Int)) = true := by simpa using hp
                          have HST := Lib.hid (all_take_succ HALL.out HXQ.out e1)
                          clear hp
                          go_wp2
                          go_round
                          case rel => exact ⟨k + 1, by omega, by go_num, HST.out⟩
                          case measure => simp [intOf]; omega
                        · have e1 : decide (q.1 < (i : Int)) = false := by simpa using hp
                          have HMK := Lib.hid (MakeK.of (w := w3) HT.out.sorted HFN.out (by have := HNE.out; omega) HALL.out (fun x hx => by have := HXQ.out; rw [this] at hx; cases hx; exact e1))
                          clear hp
                          go_wp2
                          go_meet
                          exact HMK.out
                      · have HMK := Lib.hid (MakeK.of (w := w3) (k := k) HT.out.sorted HFN.out (by have := HNE.out; omega) HALL.out (fun x hx => by
                          have := HNE.out
                          rw [List.getElem?_eq_none (by omega)] at hx
                          cases hx))
                        go_wp2
                        go_meet
                        exact HMK.out
                  case rest =>
                    obtain ⟨k, hk, rfl, hput, rfl⟩ := hcut
                    have hkn : k ≤ n := by have := HNE.out; omega
                    have hn1 : 0 < n := by
                      obtain ⟨z, hz⟩ := Option.isSome_iff_exists.1 (root_there HT.out)
                      have := List.length_pos_of_mem (aget_mem hz)
                      have := HNE.out
                      omega
                    have h1 := HP1.out
                    rw [List.length_map, ← HNE.out] at h1
                    have h8 := HR8.out
                    rw [← HNE.out] at h8
                    obtain ⟨bN, oN, rfl, -, -, -⟩ := h8.at_ (by omega)
                    obtain ⟨vs, hv, hrowE⟩ := HR9.out
                    rw [List.length_map, ← HNE.out] at hv
                    obtain ⟨bD, oD, rfl, -, -, -⟩ := hv.at_ (by omega)
                    have hlv := hv.length
                    replace HP1 := Lib.hid h1
                    obtain ⟨p0, p1, p2, pf⟩ := head_facts h1
                    have HK6 : Hid (∀ w4, Below w3.heap.size w3 w4 → w4.cell? ⟨r, 0, none⟩ = some (.slice (some ⟨bN, oN, none⟩) n cN) ∧ w4.frozen? ⟨r, 0, none⟩ = false) := fun w4 hb => ⟨by rw [hb.cell (p := ⟨r, 0, none⟩) hrw]; exact p0, by rw [hb.frozen (p := ⟨r, 0, none⟩) hrw]; exact pf 0⟩
                    have HS6 : Hid (∀ w4, Below w3.heap.size w3 w4 → RowAt (Off F r) w4 (some ⟨bN, oN, none⟩) (k * 6) ((T.take k).flatMap nodeC) ∧ RowAt (Off F r) w4 (if cN = k then some ⟨bN, oN, none⟩ else some ⟨bN, oN + k * 6, none⟩) ((n - k) * 6) ((T.drop k).flatMap nodeC)) := fun w4 hb => by
                      have := ins_rows (c := cN) h8 hkn hNc hb
                      rwa [flatM_take nodeC 6 nodeC_len, flatM_drop nodeC 6 nodeC_len] at this
                    obtain ⟨i6, a6, b6, s6, d6⟩ := info_parts nodeInfo
                    have HI6 := Lib.hid (And.intro a6 (And.intro b6 (And.intro s6 d6)))
                    obtain ⟨i1, a1, b1, s1, d1⟩ := info_parts dataInfo
                    have HI1 := Lib.hid (And.intro a1 (And.intro b1 (And.intro s1 d1)))
                    have HV := Lib.hid hv
                    have HVL := Lib.hid hlv
                    have HEA : Hid (Each (Off F r) w3 vs (T.map fun q => q.2.b)) := hrowE
                    have HO1 := Lib.hid (And.intro (fun u hu => Each.one (F := Off F r) (w := w3) HEA.out (by rw [List.length_map, ← HNE.out]; exact hlv) u (List.mem_of_mem_take hu) : ∀ u ∈ vs.take k, u.oneCell' = true) (fun u hu => Each.one (F := Off F r) (w := w3) HEA.out (by rw [List.length_map, ← HNE.out]; exact hlv) u (List.mem_of_mem_drop hu) : ∀ u ∈ vs.drop k, u.oneCell' = true))
                    have HDL : Hid ((aput ilt (i : Int) (freshM kind) T).map (fun q => q.2.b) = (T.map fun q => q.2.b).take k ++ [] :: (T.map fun q => q.2.b).drop k ∧ (T.map fun q => q.2.b).length = n) := by
                      refine ⟨?_, by rw [List.length_map]; exact HNE.out.symm⟩
                      rw [hput, List.map_append, List.map_cons, List.map_take, List.map_drop]
                      rfl
                    have HFC : Hid (aput ilt (i : Int) (freshM kind) T = T.take k ++ ((i : Int), freshM kind) :: T.drop k ∧ true = decide (kind = 2)) := ⟨hput _, HKBE.out.symm⟩
                    have i0 : (0 : Int) ≤ k := by omega
                    have i1' : (k : Int) ≤ cN := by omega
                    have i2 : (k : Int) ≤ n := by omega
                    have i4 : (n : Int) ≤ cN := by omega
                    have i5 : (k : Int) ≤ cD := by omega
                    have i6' : (n : Int) ≤ cD := by omega
                    clear a6 b6 s6 d6 a1 b1 s1 d1 h1 h8 hv hrowE hlv p0 p1 p2 pf hput hk
                    go_upto_region 19 with (fail)
                    go_cut [] (fun wx => NodesSet w3 r (.slice (some ⟨bD, oD, none⟩) n cD) (.slice aE (entsM T).length cE) (aput ilt (i : Int) (freshM kind) T) wx)
                    case first =>
                      go_wp2
                      refine wp_region_noPanic ?_
                      refine wp_region_L (last := 25) (S := (fun w' => w'.cell? ⟨r, 0, none⟩ = some (.slice (some ⟨bN, oN, none⟩) n cN) ∧ w'.frozen? ⟨r, 0, none⟩ = false)) (by kernel_rfl) ?_ (fun hS => ?_)
                      · exact HK6.out _ (Below.refl _ _).drew
                      refine wpAnyL_take (i := 0) (oi := ?oi78) (v := ?v78) ?hi78 (by kernel_rfl) (by kernel_rfl) (by kernel_rfl) (by kernel_rfl) (by kernel_rfl) ?hq78 (Or.inl ⟨?hw78, ?hy78⟩) hS ?rest78
                      case hi78 => simp only [List.getElem?_toArray, List.getElem?_cons_succ, List.getElem?_cons_zero]; rfl
                      case hq78 => exact fun _ _ _ h => h
                      case hw78 => rfl
                      case hy78 => intro w hSw; (try dsimp only at hSw); go_simp; (try with_reducible rfl)
                      try simp only [Act.put, List.setIfInBounds_toArray, List.set_cons_zero, List.set_cons_succ]
                      refine wpAnyL_take (i := 2) (oi := ?oi79) (v := ?v79) ?hi79 (by kernel_rfl) (by kernel_rfl) (by kernel_rfl) (by kernel_rfl) (by kernel_rfl) ?hq79 (Or.inl ⟨?hw79, ?hy79⟩) hS ?rest79
                      case hi79 => simp only [List.getElem?_toArray, List.getElem?_cons_succ, List.getElem?_cons_zero]; rfl
                      case hq79 => exact fun _ _ _ h => h
                      case hw79 => rfl
                      case hy79 => intro w hSw; (try dsimp only at hSw); go_simp; (try with_reducible rfl)
                      try simp only [Act.put, List.setIfInBounds_toArray, List.set_cons_zero, List.set_cons_succ]
                      refine wpAnyL_take (i := 3) (oi := ?oi80) (v := ?v80) ?hi80 (by kernel_rfl) (by kernel_rfl) (by kernel_rfl) (by kernel_rfl) (by kernel_rfl) ?hq80 (Or.inl ⟨?hw80, ?hy80⟩) hS ?rest80
                      case hi80 => simp only [List.getElem?_toArray, List.getElem?_cons_succ, List.getElem?_cons_zero]; rfl
                      case hq80 => exact fun _ _ _ h => h
                      case hw80 => rfl
                      case hy80 => intro w hSw; (try dsimp only at hSw); go_simp; (try with_reducible rfl)
                      try simp only [Act.put, List.setIfInBounds_toArray, List.set_cons_zero, List.set_cons_succ]
                      refine wpAnyL_take (i := 4) (oi := ?oi81) (v := ?v81) ?hi81 (by kernel_rfl) (by kernel_rfl) (by kernel_rfl) (by kernel_rfl) (by kernel_rfl) ?hq81 (Or.inl ⟨?hw81, ?hy81⟩) hS ?rest81
                      case hi81 => simp only [List.getElem?_toArray, List.getElem?_cons_succ, List.getElem?_cons_zero]; rfl
                      case hq81 => exact fun _ _ _ h => h
                      case hw81 => rfl
                      case hy81 => intro w hSw; (try dsimp only at hSw); go_simp; (try with_reducible rfl)
                      try simp only [Act.put, List.setIfInBounds_toArray, List.set_cons_zero, List.set_cons_succ]
                      refine wpAnyL_take (i := 5) (oi := ?oi82) (v := ?v82) ?hi82 (by kernel_rfl) (by kernel_rfl) (by kernel_rfl) (by kernel_rfl) (by kernel_rfl) ?hq82 (Or.inl ⟨?hw82, ?hy82⟩) hS ?rest82
                      case hi82 => simp only [List.getElem?_toArray, List.getElem?_cons_succ, List.getElem?_cons_zero]; rfl
                      case hq82 => exact fun _ _ _ h => h
                      case hw82 => rfl
                      case hy82 => intro w hSw; (try dsimp only at hSw); go_simp; (try with_reducible rfl)
                      try simp only [Act.put, List.setIfInBounds_toArray, List.set_cons_zero, List.set_cons_succ]
                      refine wpAnyL_take (i := 6) (oi := ?oi83) (v := ?v83) ?hi83 (by kernel_rfl) (by kernel_rfl) (by kernel_rfl) (by kernel_rfl) (by kernel_rfl) ?hq83 (Or.inl ⟨?hw83, ?hy83⟩) hS ?rest83
                      case hi83 => simp only [List.getElem?_toArray, List.getElem?_cons_succ, List.getElem?_cons_zero]; rfl
                      case hq83 => exact fun _ _ _ h => h
                      case hw83 => rfl
                      case hy83 => intro w hSw; (try dsimp only at hSw); go_simp; (try with_reducible rfl)
                      try simp only [Act.put, List.setIfInBounds_toArray, List.set_cons_zero, List.set_cons_succ]
                      refine wpAnyL_take (i := 7) (oi := ?oi84) (v := ?v84) ?hi84 (by kernel_rfl) (by kernel_rfl) (by kernel_rfl) (by kernel_rfl) (by kernel_rfl) ?hq84 (Or.inl ⟨?hw84, ?hy84⟩) hS ?rest84
                      case hi84 => simp only [List.getElem?_toArray, List.getElem?_cons_succ, List.getElem?_cons_zero]; rfl
                      case hq84 => exact fun _ _ _ h => h
                      case hw84 => rfl
                      case hy84 => intro w hSw; (try dsimp only at hSw); go_simp; (try with_reducible rfl)
                      try simp only [Act.put, List.setIfInBounds_toArray, List.set_cons_zero, List.set_cons_succ]
                      refine wpAnyL_take (i := 9) (oi := ?oi85) (v := ?v85) ?hi85 (by kernel_rfl) (by kernel_rfl) (by kernel_rfl) (by kernel_rfl) (by kernel_rfl) ?hq85 (Or.inl ⟨?hw85, ?hy85⟩) hS ?rest85
                      case hi85 => simp only [List.getElem?_toArray, List.getElem?_cons_succ, List.getElem?_cons_zero]; rfl
                      case hq85 => exact fun _ _ _ h => h
                      case hw85 => rfl
                      case hy85 => intro w hSw; (try dsimp only at hSw); go_simp; (try with_reducible rfl)
                      try simp only [Act.put, List.setIfInBounds_toArray, List.set_cons_zero, List.set_cons_succ]
                      refine wpAnyL_take (i := 10) (oi := ?oi86) (v := ?v86) ?hi86 (by kernel_rfl) (by kernel_rfl) (by kernel_rfl) (by kernel_rfl) (by kernel_rfl) ?hq86 (Or.inl ⟨?hw86, ?hy86⟩) hS ?rest86
                      case hi86 => simp only [List.getElem?_toArray, List.getElem?_cons_succ, List.getElem?_cons_zero]; rfl
                      case hq86 => exact fun _ _ _ h => h
                      case hw86 => rfl
                      case hy86 => intro w hSw; (try dsimp only at hSw); go_simp; (try with_reducible rfl)
                      try simp only [Act.put, List.setIfInBounds_toArray, List.set_cons_zero, List.set_cons_succ]
                      refine wpAnyL_take (i := 11) (oi := ?oi87) (v := ?v87) ?hi87 (by kernel_rfl) (by kernel_rfl) (by kernel_rfl) (by kernel_rfl) (by kernel_rfl) ?hq87 (Or.inl ⟨?hw87, ?hy87⟩) hS ?rest87
                      case hi87 => simp only [List.getElem?_toArray, List.getElem?_cons_succ, List.getElem?_cons_zero]; rfl
                      case hq87 => exact fun _ _ _ h => h
                      case hw87 => rfl
                      case hy87 => intro w hSw; (try dsimp only at hSw); go_simp; (try with_reducible rfl)
                      try simp only [Act.put, List.setIfInBounds_toArray, List.set_cons_zero, List.set_cons_succ]
                      refine wpAnyL_take (i := 12) (oi := ?oi88) (v := ?v88) ?hi88 (by kernel_rfl) (by kernel_rfl) (by kernel_rfl) (by kernel_rfl) (by kernel_rfl) ?hq88 (Or.inl ⟨?hw88, ?hy88⟩) hS ?rest88
                      case hi88 => simp only [List.getElem?_toArray, List.getElem?_cons_succ, List.getElem?_cons_zero]; rfl
                      case hq88 => exact fun _ _ _ h => h
                      case hw88 => rfl
                      case hy88 => intro w hSw; (try dsimp only at hSw); go_simp; (try with_reducible rfl)
                      try simp only [Act.put, List.setIfInBounds_toArray, List.set_cons_zero, List.set_cons_succ]
                      refine wpAnyL_take (i := 13) (oi := ?oi89) (v := ?v89) ?hi89 (by kernel_rfl) (by kernel_rfl) (by kernel_rfl) (by kernel_rfl) (by kernel_rfl) ?hq89 (Or.inl ⟨?hw89, ?hy89⟩) hS ?rest89
                      case hi89 => simp only [List.getElem?_toArray, List.getElem?_cons_succ, List.getElem?_cons_zero]; rfl
                      case hq89 => exact fun _ _ _ h => h
                      case hw89 => rfl
                      case hy89 => intro w hSw; (try dsimp only at hSw); go_simp; (try with_reducible rfl)
                      try simp only [Act.put, List.setIfInBounds_toArray, List.set_cons_zero, List.set_cons_succ]
                      refine wpAnyL_take (i := 16) (oi := ?oi90) (v := ?v90) ?hi90 (by kernel_rfl) (by kernel_rfl) (by kernel_rfl) (by kernel_rfl) (by kernel_rfl) ?hq90 (Or.inl ⟨?hw90, ?hy90⟩) hS ?rest90
                      case hi90 => simp only [List.getElem?_toArray, List.getElem?_cons_succ, List.getElem?_cons_zero]; rfl
                      case hq90 => exact fun _ _ _ h => h
                      case hw90 => rfl
                      case hy90 => intro w hSw; (try dsimp only at hSw); go_simp; (try with_reducible rfl)
                      try simp only [Act.put, List.setIfInBounds_toArray, List.set_cons_zero, List.set_cons_succ]
                      refine wpAnyL_take (i := 17) (oi := ?oi91) (v := ?v91) ?hi91 (by kernel_rfl) (by kernel_rfl) (by kernel_rfl) (by kernel_rfl) (by kernel_rfl) ?hq91 (Or.inl ⟨?hw91, ?hy91⟩) hS ?rest91
                      case hi91 => simp only [List.getElem?_toArray, List.getElem?_cons_succ, List.getElem?_cons_zero]; rfl
                      case hq91 => exact fun _ _ _ h => h
                      case hw91 => rfl
                      case hy91 => intro w hSw; (try dsimp only at hSw); go_simp; (try with_reducible rfl)
                      try simp only [Act.put, List.setIfInBounds_toArray, List.set_cons_zero, List.set_cons_succ]
                      refine wpAnyL_take (i := 18) (oi := ?oi92) (v := ?v92) ?hi92 (by kernel_rfl) (by kernel_rfl) (by kernel_rfl) (by kernel_rfl) (by kernel_rfl) ?hq92 (Or.inl ⟨?hw92, ?hy92⟩) hS ?rest92
                      case hi92 => simp only [List.getElem?_toArray, List.getElem?_cons_succ, List.getElem?_cons_zero]; rfl
                      case hq92 => exact fun _ _ _ h => h
                      case hw92 => rfl
                      case hy92 => intro w hSw; (try dsimp only at hSw); go_simp; (try with_reducible rfl)
                      try simp only [Act.put, List.setIfInBounds_toArray, List.set_cons_zero, List.set_cons_succ]
                      refine wpAnyL_take (i := 19) (oi := ?oi93) (v := ?v93) ?hi93 (by kernel_rfl) (by kernel_rfl) (by kernel_rfl) (by kernel_rfl) (by kernel_rfl) ?hq93 (Or.inl ⟨?hw93, ?hy93⟩) hS ?rest93
                      case hi93 => simp only [List.getElem?_toArray, List.getElem?_cons_succ, List.getElem?_cons_zero]; rfl
                      case hq93 => exact fun _ _ _ h => h
                      case hw93 => rfl
                      case hy93 => intro w hSw; (try dsimp only at hSw); go_simp; (try with_reducible rfl)
                      try simp only [Act.put, List.setIfInBounds_toArray, List.set_cons_zero, List.set_cons_succ]
                      refine wpAnyL_take (i := 20) (oi := ?oi94) (v := ?v94) ?hi94 (by kernel_rfl) (by kernel_rfl) (by kernel_rfl) (by kernel_rfl) (by kernel_rfl) ?hq94 (Or.inl ⟨?hw94, ?hy94⟩) hS ?rest94
                      case hi94 => simp only [List.getElem?_toArray, List.getElem?_cons_succ, List.getElem?_cons_zero]; rfl
                      case hq94 => exact fun _ _ _ h => h
                      case hw94 => rfl
                      case hy94 => intro w hSw; (try dsimp only at hSw); go_simp; (try with_reducible rfl)
                      try simp only [Act.put, List.setIfInBounds_toArray, List.set_cons_zero, List.set_cons_succ]
                      refine wpAnyL_take (i := 21) (oi := ?oi95) (v := ?v95) ?hi95 (by kernel_rfl) (by kernel_rfl) (by kernel_rfl) (by kernel_rfl) (by kernel_rfl) ?hq95 (Or.inl ⟨?hw95, ?hy95⟩) hS ?rest95
                      case hi95 => simp only [List.getElem?_toArray, List.getElem?_cons_succ, List.getElem?_cons_zero]; rfl
                      case hq95 => exact fun _ _ _ h => h
                      case hw95 => rfl
                      case hy95 => intro w hSw; (try dsimp only at hSw); go_simp; (try with_reducible rfl)
                      try simp only [Act.put, List.setIfInBounds_toArray, List.set_cons_zero, List.set_cons_succ]
                      refine wpAnyL_ready (rs := [1, 14]) (by kernel_rfl) (by simp) ?_
                      refine AllReadyL.cons (o := ?o96) ?ho96 (fun K hK => ?wa) (AllReadyL.cons (o := ?o97) ?ho97 (fun K hK => ?wb) AllReadyL.nil)
                      case ho96 => simp only [List.getElem?_toArray, List.getElem?_cons_succ, List.getElem?_cons_zero]; rfl
                      case ho97 => simp only [List.getElem?_toArray, List.getElem?_cons_succ, List.getElem?_cons_zero]; rfl
                      case wa =>
                        go_simp
                        refine hK.out _ _ (fun _ => HK6.out _ ((Below.refl _ _).drew.alloc (Nat.le_refl _) _)) (fun hS => ?_)
                        replace hS := hS (by decide)
                        clear hK K
                        try simp only [Act.put, List.setIfInBounds_toArray, List.set_cons_zero, List.set_cons_succ]
                        refine wpAnyL_ready (rs := [8, 14]) (by kernel_rfl) (by simp) ?_
                        refine AllReadyL.cons (o := ?o98) ?ho98 (fun K hK => ?waa) (AllReadyL.cons (o := ?o99) ?ho99 (fun K hK => ?wab) AllReadyL.nil)
                        case ho98 => simp only [List.getElem?_toArray, List.getElem?_cons_succ, List.getElem?_cons_zero]; rfl
                        case ho99 => simp only [List.getElem?_toArray, List.getElem?_cons_succ, List.getElem?_cons_zero]; rfl
                        case waa =>
                          refine step_append_rows (by rfl) (.tmp 73) (.tmp 79) 97 (by rfl) w3.heap.size 29 _ _ 6 48 Tryz.underlying97 HI6.out.1 HI6.out.2.1 HI6.out.2.2.1 HI6.out.2.2.2 rfl (by omega) _ 0 [] (by rfl) (own_new (MapKept.heap_alloc w3.drew _).1 (Nat.le_refl _)) _ k _ ((T.take k).flatMap nodeC) (by rfl) (HS6.out _ ((Below.refl _ _).drew.alloc (Nat.le_refl _) _)).1 (nodeC_one _) (by unfold maxLen; omega) (by omega) (by simp <;> omega) ?_
                          intro A1 c1 u1 hown0 hb1
                          have hB0 : Below w3.heap.size w3 u1 := ((Below.refl _ _).drew.alloc (Nat.le_refl _) _).trans hb1
                          refine hK.out _ _ (fun _ => HK6.out _ hB0) (fun hS => ?_)
                          replace hS := hS (by decide)
                          clear hK K
                          try simp only [Act.put, List.setIfInBounds_toArray, List.set_cons_zero, List.set_cons_succ]
                          refine wpAnyL_ready (rs := [14]) (by kernel_rfl) (by simp) ?_
                          refine AllReadyL.cons (o := ?o100) ?ho100 (fun K hK => ?_) AllReadyL.nil
                          case ho100 => simp only [List.getElem?_toArray, List.getElem?_cons_succ, List.getElem?_cons_zero]; rfl
                          go_simp
                          refine hK.out _ _ (fun _ => HK6.out _ (hB0.alloc hB0.size _)) (fun hS => ?_)
                          replace hS := hS (by decide)
                          clear hK K
                          try simp only [Act.put, List.setIfInBounds_toArray, List.set_cons_zero, List.set_cons_succ]
                          rw [Nat.zero_add] at hown0
                          have hown1 := own_below hown0 ((Below.refl _ _).alloc (Nat.le_refl _) (.cells (newC (i : Int) kind true).toArray 29))
                          have hrow := new_row (w := u1) (newC (i : Int) kind true) 29 (by simp [newC, maxLen])
                          have hB1 : Below w3.heap.size w3 (u1.alloc (.cells (newC (i : Int) kind true).toArray 29)) := hB0.alloc hB0.size _
                          refine wpAnyL_ready (rs := [15]) (by kernel_rfl) (by simp) ?_
                          refine AllReadyL.cons (o := ?o101) ?ho101 (fun K hK => ?_) AllReadyL.nil
                          case ho101 => simp only [List.getElem?_toArray, List.getElem?_cons_succ, List.getElem?_cons_zero]; rfl
                          refine step_append_rows (by rfl) (.tmp 80) (.tmp 86) 97 (by rfl) w3.heap.size 29 _ _ 6 48 Tryz.underlying97 HI6.out.1 HI6.out.2.1 HI6.out.2.2.1 HI6.out.2.2.2 rfl (by omega) _ _ _ (by rfl) hown1 _ 1 _ (newC (i : Int) kind true) (by rfl) hrow (newC_one _ _ _) (by unfold maxLen; omega) (by omega) hB1.size ?_
                          intro A2 c2 u2 hown2 hb2
                          have hB2 : Below w3.heap.size w3 u2 := hB1.trans hb2
                          refine hK.out _ _ (fun _ => HK6.out _ hB2) (fun hS => ?_)
                          replace hS := hS (by decide)
                          clear hK K
                          try simp only [Act.put, List.setIfInBounds_toArray, List.set_cons_zero, List.set_cons_succ]
                          refine wpAnyL_ready (rs := [22]) (by kernel_rfl) (by simp) ?_
                          refine AllReadyL.cons (o := ?o102) ?ho102 (fun K hK => ?_) AllReadyL.nil
                          case ho102 => simp only [List.getElem?_toArray, List.getElem?_cons_succ, List.getElem?_cons_zero]; rfl
                          refine step_append_rows (by rfl) (.tmp 87) (.tmp 93) 97 (by rfl) w3.heap.size 29 _ _ 6 48 Tryz.underlying97 HI6.out.1 HI6.out.2.1 HI6.out.2.2.1 HI6.out.2.2.2 rfl (by omega) _ _ _ (by rfl) hown2 _ (n - k) _ ((T.drop k).flatMap nodeC) (by rfl) (HS6.out _ hB2).2 (nodeC_one _) (by unfold maxLen; omega) (by omega) hB2.size ?_
                          intro A3 c3 u3 hown3 hb3
                          have hB3u : Below w3.heap.size w3 u3 := hB2.trans hb3
                          refine hK.out _ _ (fun _ => HK6.out _ hB3u) (fun hS => ?_)
                          replace hS := hS (by decide)
                          clear hK K
                          try simp only [Act.put, List.setIfInBounds_toArray, List.set_cons_zero, List.set_cons_succ]
                          refine wpAnyL_take (i := 23) (oi := ?oi103) (v := ?v103) ?hi103 (by kernel_rfl) (by kernel_rfl) (by kernel_rfl) (by kernel_rfl) (by kernel_rfl) ?hq103 (Or.inl ⟨?hw103, ?hy103⟩) hS ?rest103
                          case hi103 => simp only [List.getElem?_toArray, List.getElem?_cons_succ, List.getElem?_cons_zero]; rfl
                          case hq103 => exact fun _ _ _ h => h
                          case hw103 => rfl
                          case hy103 => intro w hSw; (try dsimp only at hSw); go_simp; (try with_reducible rfl)
                          try simp only [Act.put, List.setIfInBounds_toArray, List.set_cons_zero, List.set_cons_succ]
                          refine wpAnyL_take (i := 24) (oi := ?oi104) (v := ?v104) ?hi104 (by kernel_rfl) (by kernel_rfl) (by kernel_rfl) (by kernel_rfl) (by kernel_rfl) ?hq104 (Or.inl ⟨?hw104, ?hy104⟩) hS ?rest104
                          case hi104 => simp only [List.getElem?_toArray, List.getElem?_cons_succ, List.getElem?_cons_zero]; rfl
                          case hq104 => exact fun _ _ _ h => h
                          case hw104 => rfl
                          case hy104 => intro w hSw; (try dsimp only at hSw); go_simp; (try with_reducible rfl)
                          try simp only [Act.put, List.setIfInBounds_toArray, List.set_cons_zero, List.set_cons_succ]
                          refine wpAnyL_ready (rs := [25]) (by kernel_rfl) (by simp) ?_
                          refine AllReadyL.cons (o := ?o105) ?ho105 (fun K hK => ?_) AllReadyL.nil
                          case ho105 => simp only [List.getElem?_toArray, List.getElem?_cons_succ, List.getElem?_cons_zero]; rfl
                          go_simp
                          refine hK.out _ _ (fun h => absurd rfl h) (fun hS => ?_)
                          clear hS hK K
                          try simp only [Act.put, List.setIfInBounds_toArray, List.set_cons_zero, List.set_cons_succ]
                          refine wpAnyL_done (by kernel_rfl) ?_ _
                          refine NoPanic.normal ?_
                          go_wp2_with fail
                          all_goals (
                            go_meet
                            exact make_nodes hrw HP1.out hB3u HFC.out HNE.out hkn (by omega) (by simp) hown3 (by unfold maxLen; omega))
                        case wab =>
                          go_simp
                          refine hK.out _ _ (fun _ => HK6.out _ (((Below.refl _ _).drew.alloc (Nat.le_refl _) _).alloc (by simp <;> omega) _)) (fun hS => ?_)
                          replace hS := hS (by decide)
                          clear hK K
                          try simp only [Act.put, List.setIfInBounds_toArray, List.set_cons_zero, List.set_cons_succ]
                          refine wpAnyL_ready (rs := [8]) (by kernel_rfl) (by simp) ?_
                          refine AllReadyL.cons (o := ?o106) ?ho106 (fun K hK => ?_) AllReadyL.nil
                          case ho106 => simp only [List.getElem?_toArray, List.getElem?_cons_succ, List.getElem?_cons_zero]; rfl
                          refine step_append_grown (by rfl) (.tmp 73) (.tmp 79) 97 (by rfl) w3.heap.size 29 _ _ 6 48 Tryz.underlying97 HI6.out.1 HI6.out.2.1 HI6.out.2.2.1 HI6.out.2.2.2 rfl (by omega) _ 0 [] (by rfl) (own_new (two_new w3 _ _).1 (Nat.le_refl _)) _ k _ ((T.take k).flatMap nodeC) (by rfl) (HS6.out _ (((Below.refl _ _).drew.alloc (Nat.le_refl _) _).alloc (by simp <;> omega) _)).1 (nodeC_one _) (by unfold maxLen; omega) (by omega) (by simp <;> omega) ?_
                          intro A1 c1 u1 hown1 hb1 hg1
                          have hB1 : Below w3.heap.size w3 u1 := (((Below.refl _ _).drew.alloc (Nat.le_refl _) _).alloc (by simp <;> omega) _).trans hb1
                          have hrow := (row_blk (vs := (newC (i : Int) kind true)) (two_new w3 (.cells #[] 29) (.cells (newC (i : Int) kind true).toArray 29)).2 (by simp [newC, maxLen])).grown hg1 (fun b hb hbw => by subst hb; simp [Value.ownBlock])
                          refine hK.out _ _ (fun _ => HK6.out _ hB1) (fun hS => ?_)
                          replace hS := hS (by decide)
                          clear hK K
                          try simp only [Act.put, List.setIfInBounds_toArray, List.set_cons_zero, List.set_cons_succ]
                          refine wpAnyL_ready (rs := [15]) (by kernel_rfl) (by simp) ?_
                          refine AllReadyL.cons (o := ?o107) ?ho107 (fun K hK => ?_) AllReadyL.nil
                          case ho107 => simp only [List.getElem?_toArray, List.getElem?_cons_succ, List.getElem?_cons_zero]; rfl
                          refine step_append_rows (by rfl) (.tmp 80) (.tmp 86) 97 (by rfl) w3.heap.size 29 _ _ 6 48 Tryz.underlying97 HI6.out.1 HI6.out.2.1 HI6.out.2.2.1 HI6.out.2.2.2 rfl (by omega) _ _ _ (by rfl) hown1 _ 1 _ (newC (i : Int) kind true) (by rfl) hrow (newC_one _ _ _) (by unfold maxLen; omega) (by omega) hB1.size ?_
                          intro A2 c2 u2 hown2 hb2
                          have hB2 : Below w3.heap.size w3 u2 := hB1.trans hb2
                          refine hK.out _ _ (fun _ => HK6.out _ hB2) (fun hS => ?_)
                          replace hS := hS (by decide)
                          clear hK K
                          try simp only [Act.put, List.setIfInBounds_toArray, List.set_cons_zero, List.set_cons_succ]
                          refine wpAnyL_ready (rs := [22]) (by kernel_rfl) (by simp) ?_
                          refine AllReadyL.cons (o := ?o108) ?ho108 (fun K hK => ?_) AllReadyL.nil
                          case ho108 => simp only [List.getElem?_toArray, List.getElem?_cons_succ, List.getElem?_cons_zero]; rfl
                          refine step_append_rows (by rfl) (.tmp 87) (.tmp 93) 97 (by rfl) w3.heap.size 29 _ _ 6 48 Tryz.underlying97 HI6.out.1 HI6.out.2.1 HI6.out.2.2.1 HI6.out.2.2.2 rfl (by omega) _ _ _ (by rfl) hown2 _ (n - k) _ ((T.drop k).flatMap nodeC) (by rfl) (HS6.out _ hB2).2 (nodeC_one _) (by unfold maxLen; omega) (by omega) hB2.size ?_
                          intro A3 c3 u3 hown3 hb3
                          have hB3u : Below w3.heap.size w3 u3 := hB2.trans hb3
                          refine hK.out _ _ (fun _ => HK6.out _ hB3u) (fun hS => ?_)
                          replace hS := hS (by decide)
                          clear hK K
                          try simp only [Act.put, List.setIfInBounds_toArray, List.set_cons_zero, List.set_cons_succ]
                          refine wpAnyL_take (i := 23) (oi := ?oi109) (v := ?v109) ?hi109 (by kernel_rfl) (by kernel_rfl) (by kernel_rfl) (by kernel_rfl) (by kernel_rfl) ?hq109 (Or.inl ⟨?hw109, ?hy109⟩) hS ?rest109
                          case hi109 => simp only [List.getElem?_toArray, List.getElem?_cons_succ, List.getElem?_cons_zero]; rfl
                          case hq109 => exact fun _ _ _ h => h
                          case hw109 => rfl
                          case hy109 => intro w hSw; (try dsimp only at hSw); go_simp; (try with_reducible rfl)
                          try simp only [Act.put, List.setIfInBounds_toArray, List.set_cons_zero, List.set_cons_succ]
                          refine wpAnyL_take (i := 24) (oi := ?oi110) (v := ?v110) ?hi110 (by kernel_rfl) (by kernel_rfl) (by kernel_rfl) (by kernel_rfl) (by kernel_rfl) ?hq110 (Or.inl ⟨?hw110, ?hy110⟩) hS ?rest110
                          case hi110 => simp only [List.getElem?_toArray, List.getElem?_cons_succ, List.getElem?_cons_zero]; rfl
                          case hq110 => exact fun _ _ _ h => h
                          case hw110 => rfl
                          case hy110 => intro w hSw; (try dsimp only at hSw); go_simp; (try with_reducible rfl)
                          try simp only [Act.put, List.setIfInBounds_toArray, List.set_cons_zero, List.set_cons_succ]
                          refine wpAnyL_ready (rs := [25]) (by kernel_rfl) (by simp) ?_
                          refine AllReadyL.cons (o := ?o111) ?ho111 (fun K hK => ?_) AllReadyL.nil
                          case ho111 => simp only [List.getElem?_toArray, List.getElem?_cons_succ, List.getElem?_cons_zero]; rfl
                          go_simp
                          refine hK.out _ _ (fun h => absurd rfl h) (fun hS => ?_)
                          clear hS hK K
                          try simp only [Act.put, List.setIfInBounds_toArray, List.set_cons_zero, List.set_cons_succ]
                          refine wpAnyL_done (by kernel_rfl) ?_ _
                          refine NoPanic.normal ?_
                          go_wp2_with fail
                          all_goals (
                            go_meet
                            exact make_nodes hrw HP1.out hB3u HFC.out HNE.out hkn (by omega) (by simp) hown3 (by unfold maxLen; omega))
                      case wb =>
                        go_simp
                        refine hK.out _ _ (fun _ => HK6.out _ ((Below.refl _ _).drew.alloc (Nat.le_refl _) _)) (fun hS => ?_)
                        replace hS := hS (by decide)
                        clear hK K
                        try simp only [Act.put, List.setIfInBounds_toArray, List.set_cons_zero, List.set_cons_succ]
                        refine wpAnyL_ready (rs := [1]) (by kernel_rfl) (by simp) ?_
                        refine AllReadyL.cons (o := ?o112) ?ho112 (fun K hK => ?_) AllReadyL.nil
                        case ho112 => simp only [List.getElem?_toArray, List.getElem?_cons_succ, List.getElem?_cons_zero]; rfl
                        go_simp
                        refine hK.out _ _ (fun _ => HK6.out _ (((Below.refl _ _).drew.alloc (Nat.le_refl _) _).alloc (by simp <;> omega) _)) (fun hS => ?_)
                        replace hS := hS (by decide)
                        clear hK K
                        try simp only [Act.put, List.setIfInBounds_toArray, List.set_cons_zero, List.set_cons_succ]
                        refine wpAnyL_ready (rs := [8]) (by kernel_rfl) (by simp) ?_
                        refine AllReadyL.cons (o := ?o113) ?ho113 (fun K hK => ?_) AllReadyL.nil
                        case ho113 => simp only [List.getElem?_toArray, List.getElem?_cons_succ, List.getElem?_cons_zero]; rfl
                        refine step_append_grown (by rfl) (.tmp 73) (.tmp 79) 97 (by rfl) w3.heap.size 29 _ _ 6 48 Tryz.underlying97 HI6.out.1 HI6.out.2.1 HI6.out.2.2.1 HI6.out.2.2.2 rfl (by omega) _ 0 [] (by rfl) (own_new (two_new w3 _ _).2 (by omega)) _ k _ ((T.take k).flatMap nodeC) (by rfl) (HS6.out _ (((Below.refl _ _).drew.alloc (Nat.le_refl _) _).alloc (by simp <;> omega) _)).1 (nodeC_one _) (by unfold maxLen; omega) (by omega) (by simp <;> omega) ?_
                        intro A1 c1 u1 hown1 hb1 hg1
                        have hB1 : Below w3.heap.size w3 u1 := (((Below.refl _ _).drew.alloc (Nat.le_refl _) _).alloc (by simp <;> omega) _).trans hb1
                        have hrow := (row_blk (vs := (newC (i : Int) kind true)) (two_new w3 (.cells (newC (i : Int) kind true).toArray 29) (.cells #[] 29)).1 (by simp [newC, maxLen])).grown hg1 (fun b hb hbw => by subst hb; simp [Value.ownBlock])
                        refine hK.out _ _ (fun _ => HK6.out _ hB1) (fun hS => ?_)
                        replace hS := hS (by decide)
                        clear hK K
                        try simp only [Act.put, List.setIfInBounds_toArray, List.set_cons_zero, List.set_cons_succ]
                        refine wpAnyL_ready (rs := [15]) (by kernel_rfl) (by simp) ?_
                        refine AllReadyL.cons (o := ?o114) ?ho114 (fun K hK => ?_) AllReadyL.nil
                        case ho114 => simp only [List.getElem?_toArray, List.getElem?_cons_succ, List.getElem?_cons_zero]; rfl
                        refine step_append_rows (by rfl) (.tmp 80) (.tmp 86) 97 (by rfl) w3.heap.size 29 _ _ 6 48 Tryz.underlying97 HI6.out.1 HI6.out.2.1 HI6.out.2.2.1 HI6.out.2.2.2 rfl (by omega) _ _ _ (by rfl) hown1 _ 1 _ (newC (i : Int) kind true) (by rfl) hrow (newC_one _ _ _) (by unfold maxLen; omega) (by omega) hB1.size ?_
                        intro A2 c2 u2 hown2 hb2
                        have hB2 : Below w3.heap.size w3 u2 := hB1.trans hb2
                        refine hK.out _ _ (fun _ => HK6.out _ hB2) (fun hS => ?_)
                        replace hS := hS (by decide)
                        clear hK K
                        try simp only [Act.put, List.setIfInBounds_toArray, List.set_cons_zero, List.set_cons_succ]
                        refine wpAnyL_ready (rs := [22]) (by kernel_rfl) (by simp) ?_
                        refine AllReadyL.cons (o := ?o115) ?ho115 (fun K hK => ?_) AllReadyL.nil
                        case ho115 => simp only [List.getElem?_toArray, List.getElem?_cons_succ, List.getElem?_cons_zero]; rfl
                        refine step_append_rows (by rfl) (.tmp 87) (.tmp 93) 97 (by rfl) w3.heap.size 29 _ _ 6 48 Tryz.underlying97 HI6.out.1 HI6.out.2.1 HI6.out.2.2.1 HI6.out.2.2.2 rfl (by omega) _ _ _ (by rfl) hown2 _ (n - k) _ ((T.drop k).flatMap nodeC) (by rfl) (HS6.out _ hB2).2 (nodeC_one _) (by unfold maxLen; omega) (by omega) hB2.size ?_
                        intro A3 c3 u3 hown3 hb3
                        have hB3u : Below w3.heap.size w3 u3 := hB2.trans hb3
                        refine hK.out _ _ (fun _ => HK6.out _ hB3u) (fun hS => ?_)
                        replace hS := hS (by decide)
                        clear hK K
                        try simp only [Act.put, List.setIfInBounds_toArray, List.set_cons_zero, List.set_cons_succ]
                        refine wpAnyL_take (i := 23) (oi := ?oi116) (v := ?v116) ?hi116 (by kernel_rfl) (by kernel_rfl) (by kernel_rfl) (by kernel_rfl) (by kernel_rfl) ?hq116 (Or.inl ⟨?hw116, ?hy116⟩) hS ?rest116
                        case hi116 => simp only [List.getElem?_toArray, List.getElem?_cons_succ, List.getElem?_cons_zero]; rfl
                        case hq116 => exact fun _ _ _ h => h
                        case hw116 => rfl
                        case hy116 => intro w hSw; (try dsimp only at hSw); go_simp; (try with_reducible rfl)
                        try simp only [Act.put, List.setIfInBounds_toArray, List.set_cons_zero, List.set_cons_succ]
                        refine wpAnyL_take (i := 24) (oi := ?oi117) (v := ?v117) ?hi117 (by kernel_rfl) (by kernel_rfl) (by kernel_rfl) (by kernel_rfl) (by kernel_rfl) ?hq117 (Or.inl ⟨?hw117, ?hy117⟩) hS ?rest117
                        case hi117 => simp only [List.getElem?_toArray, List.getElem?_cons_succ, List.getElem?_cons_zero]; rfl
                        case hq117 => exact fun _ _ _ h => h
                        case hw117 => rfl
                        case hy117 => intro w hSw; (try dsimp only at hSw); go_simp; (try with_reducible rfl)
                        try simp only [Act.put, List.setIfInBounds_toArray, List.set_cons_zero, List.set_cons_succ]
                        refine wpAnyL_ready (rs := [25]) (by kernel_rfl) (by simp) ?_
                        refine AllReadyL.cons (o := ?o118) ?ho118 (fun K hK => ?_) AllReadyL.nil
                        case ho118 => simp only [List.getElem?_toArray, List.getElem?_cons_succ, List.getElem?_cons_zero]; rfl
                        go_simp
                        refine hK.out _ _ (fun h => absurd rfl h) (fun hS => ?_)
                        clear hS hK K
                        try simp only [Act.put, List.setIfInBounds_toArray, List.set_cons_zero, List.set_cons_succ]
                        refine wpAnyL_done (by kernel_rfl) ?_ _
                        refine NoPanic.normal ?_
                        go_wp2_with fail
                        all_goals (
                          go_meet
                          exact make_nodes hrw HP1.out hB3u HFC.out HNE.out hkn (by omega) (by simp) hown3 (by unfold maxLen; omega))
                    case rest =>
                      obtain ⟨w5, rfl⟩ : ∃ w5 : World, w5 = wc := ⟨_, rfl⟩
                      have HM := Lib.hid hcut
                      obtain ⟨hK, -, aM, cM, h5, -, -, -⟩ := hcut
                      obtain ⟨p0, p1, p2, pf⟩ := head_facts h5
                      have hs1 := hK.size
                      have hr1 : r < w5.heap.size := by omega
                      have hv1 : RowAt (Off (Grow F w3 w5) r) w5 (some ⟨bD, oD, none⟩) (n * 1) vs := by rw [Nat.mul_one]; exact row_old hK HV.out
                      have HK1 : Hid (∀ w4, Below w5.heap.size w5 w4 → w4.cell? ⟨r, 1, none⟩ = some (.slice (some ⟨bD, oD, none⟩) n cD) ∧ w4.frozen? ⟨r, 1, none⟩ = false) := fun w4 hb => ⟨by rw [hb.cell (p := ⟨r, 1, none⟩) hr1]; exact p1, by rw [hb.frozen (p := ⟨r, 1, none⟩) hr1]; exact pf 1⟩
                      have HS1 : Hid (∀ w4, Below w5.heap.size w5 w4 → RowAt (Off (Grow F w3 w5) r) w4 (some ⟨bD, oD, none⟩) (k * 1) (vs.take k) ∧ RowAt (Off (Grow F w3 w5) r) w4 (if cD = k then some ⟨bD, oD, none⟩ else some ⟨bD, oD + k, none⟩) ((n - k) * 1) (vs.drop k)) := fun w4 hb => by
                        have := ins_rows (c := cD) hv1 hkn hDc hb
                        rw [Nat.mul_one] at this
                        simpa only [Nat.mul_one] using this
                      clear hK h5 p0 p1 p2 pf hv1
                      go_upto_region 20 with (fail)
                      go_cut [] (fun wx => RTurnP F w3 r (aput ilt (i : Int) (freshM kind) T) ((aput ilt (i : Int) (freshM kind) T).map fun q => q.2.b) (entsM T) (.tuple #[]) (.returned (.tuple #[])) wx)
                      case first =>
                        go_wp2
                        refine wp_region_noPanic ?_
                        refine wp_region_L (last := 20) (S := (fun w' => w'.cell? ⟨r, 1, none⟩ = some (.slice (some ⟨bD, oD, none⟩) n cD) ∧ w'.frozen? ⟨r, 1, none⟩ = false)) (by kernel_rfl) ?_ (fun hS => ?_)
                        · exact HK1.out _ (Below.refl _ _).drew
                        refine wpAnyL_take (i := 0) (oi := ?oi119) (v := ?v119) ?hi119 (by kernel_rfl) (by kernel_rfl) (by kernel_rfl) (by kernel_rfl) (by kernel_rfl) ?hq119 (Or.inl ⟨?hw119, ?hy119⟩) hS ?rest119
                        case hi119 => simp only [List.getElem?_toArray, List.getElem?_cons_succ, List.getElem?_cons_zero]; rfl
                        case hq119 => exact fun _ _ _ h => h
                        case hw119 => rfl
                        case hy119 => intro w hSw; (try dsimp only at hSw); go_simp; (try with_reducible rfl)
                        try simp only [Act.put, List.setIfInBounds_toArray, List.set_cons_zero, List.set_cons_succ]
                        refine wpAnyL_take (i := 2) (oi := ?oi120) (v := ?v120) ?hi120 (by kernel_rfl) (by kernel_rfl) (by kernel_rfl) (by kernel_rfl) (by kernel_rfl) ?hq120 (Or.inl ⟨?hw120, ?hy120⟩) hS ?rest120
                        case hi120 => simp only [List.getElem?_toArray, List.getElem?_cons_succ, List.getElem?_cons_zero]; rfl
                        case hq120 => exact fun _ _ _ h => h
                        case hw120 => rfl
                        case hy120 => intro w hSw; (try dsimp only at hSw); go_simp; (try with_reducible rfl)
                        try simp only [Act.put, List.setIfInBounds_toArray, List.set_cons_zero, List.set_cons_succ]
                        refine wpAnyL_take (i := 3) (oi := ?oi121) (v := ?v121) ?hi121 (by kernel_rfl) (by kernel_rfl) (by kernel_rfl) (by kernel_rfl) (by kernel_rfl) ?hq121 (Or.inl ⟨?hw121, ?hy121⟩) hS ?rest121
                        case hi121 => simp only [List.getElem?_toArray, List.getElem?_cons_succ, List.getElem?_cons_zero]; rfl
                        case hq121 => exact fun _ _ _ h => h
                        case hw121 => rfl
                        case hy121 => intro w hSw; (try dsimp only at hSw); go_simp; (try with_reducible rfl)
                        try simp only [Act.put, List.setIfInBounds_toArray, List.set_cons_zero, List.set_cons_succ]
                        refine wpAnyL_take (i := 4) (oi := ?oi122) (v := ?v122) ?hi122 (by kernel_rfl) (by kernel_rfl) (by kernel_rfl) (by kernel_rfl) (by kernel_rfl) ?hq122 (Or.inl ⟨?hw122, ?hy122⟩) hS ?rest122
                        case hi122 => simp only [List.getElem?_toArray, List.getElem?_cons_succ, List.getElem?_cons_zero]; rfl
                        case hq122 => exact fun _ _ _ h => h
                        case hw122 => rfl
                        case hy122 => intro w hSw; (try dsimp only at hSw); go_simp; (try with_reducible rfl)
                        try simp only [Act.put, List.setIfInBounds_toArray, List.set_cons_zero, List.set_cons_succ]
                        refine wpAnyL_take (i := 5) (oi := ?oi123) (v := ?v123) ?hi123 (by kernel_rfl) (by kernel_rfl) (by kernel_rfl) (by kernel_rfl) (by kernel_rfl) ?hq123 (Or.inl ⟨?hw123, ?hy123⟩) hS ?rest123
                        case hi123 => simp only [List.getElem?_toArray, List.getElem?_cons_succ, List.getElem?_cons_zero]; rfl
                        case hq123 => exact fun _ _ _ h => h
                        case hw123 => rfl
                        case hy123 => intro w hSw; (try dsimp only at hSw); go_simp; (try with_reducible rfl)
                        try simp only [Act.put, List.setIfInBounds_toArray, List.set_cons_zero, List.set_cons_succ]
                        refine wpAnyL_take (i := 6) (oi := ?oi124) (v := ?v124) ?hi124 (by kernel_rfl) (by kernel_rfl) (by kernel_rfl) (by kernel_rfl) (by kernel_rfl) ?hq124 (Or.inl ⟨?hw124, ?hy124⟩) hS ?rest124
                        case hi124 => simp only [List.getElem?_toArray, List.getElem?_cons_succ, List.getElem?_cons_zero]; rfl
                        case hq124 => exact fun _ _ _ h => h
                        case hw124 => rfl
                        case hy124 => intro w hSw; (try dsimp only at hSw); go_simp; (try with_reducible rfl)
                        try simp only [Act.put, List.setIfInBounds_toArray, List.set_cons_zero, List.set_cons_succ]
                        refine wpAnyL_take (i := 7) (oi := ?oi125) (v := ?v125) ?hi125 (by kernel_rfl) (by kernel_rfl) (by kernel_rfl) (by kernel_rfl) (by kernel_rfl) ?hq125 (Or.inl ⟨?hw125, ?hy125⟩) hS ?rest125
                        case hi125 => simp only [List.getElem?_toArray, List.getElem?_cons_succ, List.getElem?_cons_zero]; rfl
                        case hq125 => exact fun _ _ _ h => h
                        case hw125 => rfl
                        case hy125 => intro w hSw; (try dsimp only at hSw); go_simp; (try with_reducible rfl)
                        try simp only [Act.put, List.setIfInBounds_toArray, List.set_cons_zero, List.set_cons_succ]
                        refine wpAnyL_take (i := 11) (oi := ?oi126) (v := ?v126) ?hi126 (by kernel_rfl) (by kernel_rfl) (by kernel_rfl) (by kernel_rfl) (by kernel_rfl) ?hq126 (Or.inl ⟨?hw126, ?hy126⟩) hS ?rest126
                        case hi126 => simp only [List.getElem?_toArray, List.getElem?_cons_succ, List.getElem?_cons_zero]; rfl
                        case hq126 => exact fun _ _ _ h => h
                        case hw126 => rfl
                        case hy126 => intro w hSw; (try dsimp only at hSw); go_simp; (try with_reducible rfl)
                        try simp only [Act.put, List.setIfInBounds_toArray, List.set_cons_zero, List.set_cons_succ]
                        refine wpAnyL_take (i := 12) (oi := ?oi127) (v := ?v127) ?hi127 (by kernel_rfl) (by kernel_rfl) (by kernel_rfl) (by kernel_rfl) (by kernel_rfl) ?hq127 (Or.inl ⟨?hw127, ?hy127⟩) hS ?rest127
                        case hi127 => simp only [List.getElem?_toArray, List.getElem?_cons_succ, List.getElem?_cons_zero]; rfl
                        case hq127 => exact fun _ _ _ h => h
                        case hw127 => rfl
                        case hy127 => intro w hSw; (try dsimp only at hSw); go_simp; (try with_reducible rfl)
                        try simp only [Act.put, List.setIfInBounds_toArray, List.set_cons_zero, List.set_cons_succ]
                        refine wpAnyL_take (i := 13) (oi := ?oi128) (v := ?v128) ?hi128 (by kernel_rfl) (by kernel_rfl) (by kernel_rfl) (by kernel_rfl) (by kernel_rfl) ?hq128 (Or.inl ⟨?hw128, ?hy128⟩) hS ?rest128
                        case hi128 => simp only [List.getElem?_toArray, List.getElem?_cons_succ, List.getElem?_cons_zero]; rfl
                        case hq128 => exact fun _ _ _ h => h
                        case hw128 => rfl
                        case hy128 => intro w hSw; (try dsimp only at hSw); go_simp; (try with_reducible rfl)
                        try simp only [Act.put, List.setIfInBounds_toArray, List.set_cons_zero, List.set_cons_succ]
                        refine wpAnyL_take (i := 14) (oi := ?oi129) (v := ?v129) ?hi129 (by kernel_rfl) (by kernel_rfl) (by kernel_rfl) (by kernel_rfl) (by kernel_rfl) ?hq129 (Or.inl ⟨?hw129, ?hy129⟩) hS ?rest129
                        case hi129 => simp only [List.getElem?_toArray, List.getElem?_cons_succ, List.getElem?_cons_zero]; rfl
                        case hq129 => exact fun _ _ _ h => h
                        case hw129 => rfl
                        case hy129 => intro w hSw; (try dsimp only at hSw); go_simp; (try with_reducible rfl)
                        try simp only [Act.put, List.setIfInBounds_toArray, List.set_cons_zero, List.set_cons_succ]
                        refine wpAnyL_take (i := 15) (oi := ?oi130) (v := ?v130) ?hi130 (by kernel_rfl) (by kernel_rfl) (by kernel_rfl) (by kernel_rfl) (by kernel_rfl) ?hq130 (Or.inl ⟨?hw130, ?hy130⟩) hS ?rest130
                        case hi130 => simp only [List.getElem?_toArray, List.getElem?_cons_succ, List.getElem?_cons_zero]; rfl
                        case hq130 => exact fun _ _ _ h => h
                        case hw130 => rfl
                        case hy130 => intro w hSw; (try dsimp only at hSw); go_simp; (try with_reducible rfl)
                        try simp only [Act.put, List.setIfInBounds_toArray, List.set_cons_zero, List.set_cons_succ]
                        refine wpAnyL_take (i := 16) (oi := ?oi131) (v := ?v131) ?hi131 (by kernel_rfl) (by kernel_rfl) (by kernel_rfl) (by kernel_rfl) (by kernel_rfl) ?hq131 (Or.inl ⟨?hw131, ?hy131⟩) hS ?rest131
                        case hi131 => simp only [List.getElem?_toArray, List.getElem?_cons_succ, List.getElem?_cons_zero]; rfl
                        case hq131 => exact fun _ _ _ h => h
                        case hw131 => rfl
                        case hy131 => intro w hSw; (try dsimp only at hSw); go_simp; (try with_reducible rfl)
                        try simp only [Act.put, List.setIfInBounds_toArray, List.set_cons_zero, List.set_cons_succ]
                        refine wpAnyL_ready (rs := [1, 9]) (by kernel_rfl) (by simp) ?_
                        refine AllReadyL.cons (o := ?o132) ?ho132 (fun K hK => ?wa) (AllReadyL.cons (o := ?o133) ?ho133 (fun K hK => ?wb) AllReadyL.nil)
                        case ho132 => simp only [List.getElem?_toArray, List.getElem?_cons_succ, List.getElem?_cons_zero]; rfl
                        case ho133 => simp only [List.getElem?_toArray, List.getElem?_cons_succ, List.getElem?_cons_zero]; rfl
                        case wa =>
                          go_simp
                          refine hK.out _ _ (fun _ => HK1.out _ ((Below.refl _ _).drew.alloc (Nat.le_refl _) _)) (fun hS => ?_)
                          replace hS := hS (by decide)
                          clear hK K
                          try simp only [Act.put, List.setIfInBounds_toArray, List.set_cons_zero, List.set_cons_succ]
                          refine wpAnyL_ready (rs := [8, 9]) (by kernel_rfl) (by simp) ?_
                          refine AllReadyL.cons (o := ?o134) ?ho134 (fun K hK => ?waa) (AllReadyL.cons (o := ?o135) ?ho135 (fun K hK => ?wab) AllReadyL.nil)
                          case ho134 => simp only [List.getElem?_toArray, List.getElem?_cons_succ, List.getElem?_cons_zero]; rfl
                          case ho135 => simp only [List.getElem?_toArray, List.getElem?_cons_succ, List.getElem?_cons_zero]; rfl
                          case waa =>
                            refine step_append_rows (by rfl) (.tmp 98) (.tmp 104) 80 (by rfl) w5.heap.size 51 _ _ 1 24 Tryz.underlying80 HI1.out.1 HI1.out.2.1 HI1.out.2.2.1 HI1.out.2.2.2 rfl (by omega) _ 0 [] (by rfl) (own_new (MapKept.heap_alloc w5.drew _).1 (Nat.le_refl _)) _ k _ (vs.take k) (by rfl) (HS1.out _ ((Below.refl _ _).drew.alloc (Nat.le_refl _) _)).1 HO1.out.1 (by unfold maxLen; omega) (by omega) (by simp <;> omega) ?_
                            intro A1 c1 u1 hown0 hb1
                            have hB0 : Below w5.heap.size w5 u1 := ((Below.refl _ _).drew.alloc (Nat.le_refl _) _).trans hb1
                            refine hK.out _ _ (fun _ => HK1.out _ hB0) (fun hS => ?_)
                            replace hS := hS (by decide)
                            clear hK K
                            try simp only [Act.put, List.setIfInBounds_toArray, List.set_cons_zero, List.set_cons_succ]
                            refine wpAnyL_ready (rs := [9]) (by kernel_rfl) (by simp) ?_
                            refine AllReadyL.cons (o := ?o136) ?ho136 (fun K hK => ?_) AllReadyL.nil
                            case ho136 => simp only [List.getElem?_toArray, List.getElem?_cons_succ, List.getElem?_cons_zero]; rfl
                            go_simp
                            refine hK.out _ _ (fun _ => HK1.out _ (hB0.alloc hB0.size _)) (fun hS => ?_)
                            replace hS := hS (by decide)
                            clear hK K
                            try simp only [Act.put, List.setIfInBounds_toArray, List.set_cons_zero, List.set_cons_succ]
                            rw [Nat.zero_add] at hown0
                            have hown1 := own_below hown0 ((Below.refl _ _).alloc (Nat.le_refl _) (.cells [Value.slice none 0 0].toArray 51))
                            have hrow := new_row (w := u1) [Value.slice none 0 0] 51 (by simp [newC, maxLen])
                            have hB1 : Below w5.heap.size w5 (u1.alloc (.cells [Value.slice none 0 0].toArray 51)) := hB0.alloc hB0.size _
                            refine wpAnyL_ready (rs := [10]) (by kernel_rfl) (by simp) ?_
                            refine AllReadyL.cons (o := ?o137) ?ho137 (fun K hK => ?_) AllReadyL.nil
                            case ho137 => simp only [List.getElem?_toArray, List.getElem?_cons_succ, List.getElem?_cons_zero]; rfl
                            refine step_append_rows (by rfl) (.tmp 105) (.tmp 106) 80 (by rfl) w5.heap.size 51 _ _ 1 24 Tryz.underlying80 HI1.out.1 HI1.out.2.1 HI1.out.2.2.1 HI1.out.2.2.2 rfl (by omega) _ _ _ (by rfl) hown1 _ 1 _ [Value.slice none 0 0] (by rfl) hrow (by intro u hu; simp only [List.mem_singleton] at hu; subst hu; rfl) (by unfold maxLen; omega) (by omega) hB1.size ?_
                            intro A2 c2 u2 hown2 hb2
                            have hB2 : Below w5.heap.size w5 u2 := hB1.trans hb2
                            refine hK.out _ _ (fun _ => HK1.out _ hB2) (fun hS => ?_)
                            replace hS := hS (by decide)
                            clear hK K
                            try simp only [Act.put, List.setIfInBounds_toArray, List.set_cons_zero, List.set_cons_succ]
                            refine wpAnyL_ready (rs := [17]) (by kernel_rfl) (by simp) ?_
                            refine AllReadyL.cons (o := ?o138) ?ho138 (fun K hK => ?_) AllReadyL.nil
                            case ho138 => simp only [List.getElem?_toArray, List.getElem?_cons_succ, List.getElem?_cons_zero]; rfl
                            refine step_append_rows (by rfl) (.tmp 107) (.tmp 113) 80 (by rfl) w5.heap.size 51 _ _ 1 24 Tryz.underlying80 HI1.out.1 HI1.out.2.1 HI1.out.2.2.1 HI1.out.2.2.2 rfl (by omega) _ _ _ (by rfl) hown2 _ (n - k) _ (vs.drop k) (by rfl) (HS1.out _ hB2).2 HO1.out.2 (by unfold maxLen; omega) (by omega) hB2.size ?_
                            intro A3 c3 u3 hown3 hb3
                            have hB3u : Below w5.heap.size w5 u3 := hB2.trans hb3
                            refine hK.out _ _ (fun _ => HK1.out _ hB3u) (fun hS => ?_)
                            replace hS := hS (by decide)
                            clear hK K
                            try simp only [Act.put, List.setIfInBounds_toArray, List.set_cons_zero, List.set_cons_succ]
                            refine wpAnyL_take (i := 18) (oi := ?oi139) (v := ?v139) ?hi139 (by kernel_rfl) (by kernel_rfl) (by kernel_rfl) (by kernel_rfl) (by kernel_rfl) ?hq139 (Or.inl ⟨?hw139, ?hy139⟩) hS ?rest139
                            case hi139 => simp only [List.getElem?_toArray, List.getElem?_cons_succ, List.getElem?_cons_zero]; rfl
                            case hq139 => exact fun _ _ _ h => h
                            case hw139 => rfl
                            case hy139 => intro w hSw; (try dsimp only at hSw); go_simp; (try with_reducible rfl)
                            try simp only [Act.put, List.setIfInBounds_toArray, List.set_cons_zero, List.set_cons_succ]
                            refine wpAnyL_take (i := 19) (oi := ?oi140) (v := ?v140) ?hi140 (by kernel_rfl) (by kernel_rfl) (by kernel_rfl) (by kernel_rfl) (by kernel_rfl) ?hq140 (Or.inl ⟨?hw140, ?hy140⟩) hS ?rest140
                            case hi140 => simp only [List.getElem?_toArray, List.getElem?_cons_succ, List.getElem?_cons_zero]; rfl
                            case hq140 => exact fun _ _ _ h => h
                            case hw140 => rfl
                            case hy140 => intro w hSw; (try dsimp only at hSw); go_simp; (try with_reducible rfl)
                            try simp only [Act.put, List.setIfInBounds_toArray, List.set_cons_zero, List.set_cons_succ]
                            refine wpAnyL_ready (rs := [20]) (by kernel_rfl) (by simp) ?_
                            refine AllReadyL.cons (o := ?o141) ?ho141 (fun K hK => ?_) AllReadyL.nil
                            case ho141 => simp only [List.getElem?_toArray, List.getElem?_cons_succ, List.getElem?_cons_zero]; rfl
                            go_simp
                            refine hK.out _ _ (fun h => absurd rfl h) (fun hS => ?_)
                            clear hS hK K
                            try simp only [Act.put, List.setIfInBounds_toArray, List.set_cons_zero, List.set_cons_succ]
                            refine wpAnyL_done (by kernel_rfl) ?_ _
                            refine NoPanic.normal ?_
                            go_wp2_with fail
                            all_goals (
                              go_meet
                              exact make_data HR3.out HP1.out HM.out hB3u HDL.out hkn HEA.out HVL.out (by omega) (by simp) hown3 (by unfold maxLen; omega))
                          case wab =>
                            go_simp
                            refine hK.out _ _ (fun _ => HK1.out _ (((Below.refl _ _).drew.alloc (Nat.le_refl _) _).alloc (by simp <;> omega) _)) (fun hS => ?_)
                            replace hS := hS (by decide)
                            clear hK K
                            try simp only [Act.put, List.setIfInBounds_toArray, List.set_cons_zero, List.set_cons_succ]
                            refine wpAnyL_ready (rs := [8]) (by kernel_rfl) (by simp) ?_
                            refine AllReadyL.cons (o := ?o142) ?ho142 (fun K hK => ?_) AllReadyL.nil
                            case ho142 => simp only [List.getElem?_toArray, List.getElem?_cons_succ, List.getElem?_cons_zero]; rfl
                            refine step_append_grown (by rfl) (.tmp 98) (.tmp 104) 80 (by rfl) w5.heap.size 51 _ _ 1 24 Tryz.underlying80 HI1.out.1 HI1.out.2.1 HI1.out.2.2.1 HI1.out.2.2.2 rfl (by omega) _ 0 [] (by rfl) (own_new (two_new w5 _ _).1 (Nat.le_refl _)) _ k _ (vs.take k) (by rfl) (HS1.out _ (((Below.refl _ _).drew.alloc (Nat.le_refl _) _).alloc (by simp <;> omega) _)).1 HO1.out.1 (by unfold maxLen; omega) (by omega) (by simp <;> omega) ?_
                            intro A1 c1 u1 hown1 hb1 hg1
                            have hB1 : Below w5.heap.size w5 u1 := (((Below.refl _ _).drew.alloc (Nat.le_refl _) _).alloc (by simp <;> omega) _).trans hb1
                            have hrow := (row_blk (vs := [Value.slice none 0 0]) (two_new w5 (.cells #[] 51) (.cells [Value.slice none 0 0].toArray 51)).2 (by simp [newC, maxLen])).grown hg1 (fun b hb hbw => by subst hb; simp [Value.ownBlock])
                            refine hK.out _ _ (fun _ => HK1.out _ hB1) (fun hS => ?_)
                            replace hS := hS (by decide)
                            clear hK K
                            try simp only [Act.put, List.setIfInBounds_toArray, List.set_cons_zero, List.set_cons_succ]
                            refine wpAnyL_ready (rs := [10]) (by kernel_rfl) (by simp) ?_
                            refine AllReadyL.cons (o := ?o143) ?ho143 (fun K hK => ?_) AllReadyL.nil
                            case ho143 => simp only [List.getElem?_toArray, List.getElem?_cons_succ, List.getElem?_cons_zero]; rfl
                            refine step_append_rows (by rfl) (.tmp 105) (.tmp 106) 80 (by rfl) w5.heap.size 51 _ _ 1 24 Tryz.underlying80 HI1.out.1 HI1.out.2.1 HI1.out.2.2.1 HI1.out.2.2.2 rfl (by omega) _ _ _ (by rfl) hown1 _ 1 _ [Value.slice none 0 0] (by rfl) hrow (by intro u hu; simp only [List.mem_singleton] at hu; subst hu; rfl) (by unfold maxLen; omega) (by omega) hB1.size ?_
                            intro A2 c2 u2 hown2 hb2
                            have hB2 : Below w5.heap.size w5 u2 := hB1.trans hb2
                            refine hK.out _ _ (fun _ => HK1.out _ hB2) (fun hS => ?_)
                            replace hS := hS (by decide)
                            clear hK K
                            try simp only [Act.put, List.setIfInBounds_toArray, List.set_cons_zero, List.set_cons_succ]
                            refine wpAnyL_ready (rs := [17]) (by kernel_rfl) (by simp) ?_
                            refine AllReadyL.cons (o := ?o144) ?ho144 (fun K hK => ?_) AllReadyL.nil
                            case ho144 => simp only [List.getElem?_toArray, List.getElem?_cons_succ, List.getElem?_cons_zero]; rfl
                            refine step_append_rows (by rfl) (.tmp 107) (.tmp 113) 80 (by rfl) w5.heap.size 51 _ _ 1 24 Tryz.underlying80 HI1.out.1 HI1.out.2.1 HI1.out.2.2.1 HI1.out.2.2.2 rfl (by omega) _ _ _ (by rfl) hown2 _ (n - k) _ (vs.drop k) (by rfl) (HS1.out _ hB2).2 HO1.out.2 (by unfold maxLen; omega) (by omega) hB2.size ?_
                            intro A3 c3 u3 hown3 hb3
                            have hB3u : Below w5.heap.size w5 u3 := hB2.trans hb3
                            refine hK.out _ _ (fun _ => HK1.out _ hB3u) (fun hS => ?_)
                            replace hS := hS (by decide)
                            clear hK K
                            try simp only [Act.put, List.setIfInBounds_toArray, List.set_cons_zero, List.set_cons_succ]
                            refine wpAnyL_take (i := 18) (oi := ?oi145) (v := ?v145) ?hi145 (by kernel_rfl) (by kernel_rfl) (by kernel_rfl) (by kernel_rfl) (by kernel_rfl) ?hq145 (Or.inl ⟨?hw145, ?hy145⟩) hS ?rest145
                            case hi145 => simp only [List.getElem?_toArray, List.getElem?_cons_succ, List.getElem?_cons_zero]; rfl
                            case hq145 => exact fun _ _ _ h => h
                            case hw145 => rfl
                            case hy145 => intro w hSw; (try dsimp only at hSw); go_simp; (try with_reducible rfl)
                            try simp only [Act.put, List.setIfInBounds_toArray, List.set_cons_zero, List.set_cons_succ]
                            refine wpAnyL_take (i := 19) (oi := ?oi146) (v := ?v146) ?hi146 (by kernel_rfl) (by kernel_rfl) (by kernel_rfl) (by kernel_rfl) (by kernel_rfl) ?hq146 (Or.inl ⟨?hw146, ?hy146⟩) hS ?rest146
                            case hi146 => simp only [List.getElem?_toArray, List.getElem?_cons_succ, List.getElem?_cons_zero]; rfl
                            case hq146 => exact fun _ _ _ h => h
                            case hw146 => rfl
                            case hy146 => intro w hSw; (try dsimp only at hSw); go_simp; (try with_reducible rfl)
                            try simp only [Act.put, List.setIfInBounds_toArray, List.set_cons_zero, List.set_cons_succ]
                            refine wpAnyL_ready (rs := [20]) (by kernel_rfl) (by simp) ?_
                            refine AllReadyL.cons (o := ?o147) ?ho147 (fun K hK => ?_) AllReadyL.nil
                            case ho147 => simp only [List.getElem?_toArray, List.getElem?_cons_succ, List.getElem?_cons_zero]; rfl
                            go_simp
                            refine hK.out _ _ (fun h => absurd rfl h) (fun hS => ?_)
                            clear hS hK K
                            try simp only [Act.put, List.setIfInBounds_toArray, List.set_cons_zero, List.set_cons_succ]
                            refine wpAnyL_done (by kernel_rfl) ?_ _
                            refine NoPanic.normal ?_
                            go_wp2_with fail
                            all_goals (
                              go_meet
                              exact make_data HR3.out HP1.out HM.out hB3u HDL.out hkn HEA.out HVL.out (by omega) (by simp) hown3 (by unfold maxLen; omega))
                        case wb =>
                          go_simp
                          refine hK.out _ _ (fun _ => HK1.out _ ((Below.refl _ _).drew.alloc (Nat.le_refl _) _)) (fun hS => ?_)
                          replace hS := hS (by decide)
                          clear hK K
                          try simp only [Act.put, List.setIfInBounds_toArray, List.set_cons_zero, List.set_cons_succ]
                          refine wpAnyL_ready (rs := [1]) (by kernel_rfl) (by simp) ?_
                          refine AllReadyL.cons (o := ?o148) ?ho148 (fun K hK => ?_) AllReadyL.nil
                          case ho148 => simp only [List.getElem?_toArray, List.getElem?_cons_succ, List.getElem?_cons_zero]; rfl
                          go_simp
                          refine hK.out _ _ (fun _ => HK1.out _ (((Below.refl _ _).drew.alloc (Nat.le_refl _) _).alloc (by simp <;> omega) _)) (fun hS => ?_)
                          replace hS := hS (by decide)
                          clear hK K
                          try simp only [Act.put, List.setIfInBounds_toArray, List.set_cons_zero, List.set_cons_succ]
                          refine wpAnyL_ready (rs := [8]) (by kernel_rfl) (by simp) ?_
                          refine AllReadyL.cons (o := ?o149) ?ho149 (fun K hK => ?_) AllReadyL.nil
                          case ho149 => simp only [List.getElem?_toArray, List.getElem?_cons_succ, List.getElem?_cons_zero]; rfl
                          refine step_append_grown (by rfl) (.tmp 98) (.tmp 104) 80 (by rfl) w5.heap.size 51 _ _ 1 24 Tryz.underlying80 HI1.out.1 HI1.out.2.1 HI1.out.2.2.1 HI1.out.2.2.2 rfl (by omega) _ 0 [] (by rfl) (own_new (two_new w5 _ _).2 (by omega)) _ k _ (vs.take k) (by rfl) (HS1.out _ (((Below.refl _ _).drew.alloc (Nat.le_refl _) _).alloc (by simp <;> omega) _)).1 HO1.out.1 (by unfold maxLen; omega) (by omega) (by simp <;> omega) ?_
                          intro A1 c1 u1 hown1 hb1 hg1
                          have hB1 : Below w5.heap.size w5 u1 := (((Below.refl _ _).drew.alloc (Nat.le_refl _) _).alloc (by simp <;> omega) _).trans hb1
                          have hrow := (row_blk (vs := [Value.slice none 0 0]) (two_new w5 (.cells [Value.slice none 0 0].toArray 51) (.cells #[] 51)).1 (by simp [newC, maxLen])).grown hg1 (fun b hb hbw => by subst hb; simp [Value.ownBlock])
                          refine hK.out _ _ (fun _ => HK1.out _ hB1) (fun hS => ?_)
                          replace hS := hS (by decide)
                          clear hK K
                          try simp only [Act.put, List.setIfInBounds_toArray, List.set_cons_zero, List.set_cons_succ]
                          refine wpAnyL_ready (rs := [10]) (by kernel_rfl) (by simp) ?_
                          refine AllReadyL.cons (o := ?o150) ?ho150 (fun K hK => ?_) AllReadyL.nil
                          case ho150 => simp only [List.getElem?_toArray, List.getElem?_cons_succ, List.getElem?_cons_zero]; rfl
                          refine step_append_rows (by rfl) (.tmp 105) (.tmp 106) 80 (by rfl) w5.heap.size 51 _ _ 1 24 Tryz.underlying80 HI1.out.1 HI1.out.2.1 HI1.out.2.2.1 HI1.out.2.2.2 rfl (by omega) _ _ _ (by rfl) hown1 _ 1 _ [Value.slice none 0 0] (by rfl) hrow (by intro u hu; simp only [List.mem_singleton] at hu; subst hu; rfl) (by unfold maxLen; omega) (by omega) hB1.size ?_
                          intro A2 c2 u2 hown2 hb2
                          have hB2 : Below w5.heap.size w5 u2 := hB1.trans hb2
                          refine hK.out _ _ (fun _ => HK1.out _ hB2) (fun hS => ?_)
                          replace hS := hS (by decide)
                          clear hK K
                          try simp only [Act.put, List.setIfInBounds_toArray, List.set_cons_zero, List.set_cons_succ]
                          refine wpAnyL_ready (rs := [17]) (by kernel_rfl) (by simp) ?_
                          refine AllReadyL.cons (o := ?o151) ?ho151 (fun K hK => ?_) AllReadyL.nil
                          case ho151 => simp only [List.getElem?_toArray, List.getElem?_cons_succ, List.getElem?_cons_zero]; rfl
                          refine step_append_rows (by rfl) (.tmp 107) (.tmp 113) 80 (by rfl) w5.heap.size 51 _ _ 1 24 Tryz.underlying80 HI1.out.1 HI1.out.2.1 HI1.out.2.2.1 HI1.out.2.2.2 rfl (by omega) _ _ _ (by rfl) hown2 _ (n - k) _ (vs.drop k) (by rfl) (HS1.out _ hB2).2 HO1.out.2 (by unfold maxLen; omega) (by omega) hB2.size ?_
                          intro A3 c3 u3 hown3 hb3
                          have hB3u : Below w5.heap.size w5 u3 := hB2.trans hb3
                          refine hK.out _ _ (fun _ => HK1.out _ hB3u) (fun hS => ?_)
                          replace hS := hS (by decide)
                          clear hK K
                          try simp only [Act.put, List.setIfInBounds_toArray, List.set_cons_zero, List.set_cons_succ]
                          refine wpAnyL_take (i := 18) (oi := ?oi152) (v := ?v152) ?hi152 (by kernel_rfl) (by kernel_rfl) (by kernel_rfl) (by kernel_rfl) (by kernel_rfl) ?hq152 (Or.inl ⟨?hw152, ?hy152⟩) hS ?rest152
                          case hi152 => simp only [List.getElem?_toArray, List.getElem?_cons_succ, List.getElem?_cons_zero]; rfl
                          case hq152 => exact fun _ _ _ h => h
                          case hw152 => rfl
                          case hy152 => intro w hSw; (try dsimp only at hSw); go_simp; (try with_reducible rfl)
                          try simp only [Act.put, List.setIfInBounds_toArray, List.set_cons_zero, List.set_cons_succ]
                          refine wpAnyL_take (i := 19) (oi := ?oi153) (v := ?v153) ?hi153 (by kernel_rfl) (by kernel_rfl) (by kernel_rfl) (by kernel_rfl) (by kernel_rfl) ?hq153 (Or.inl ⟨?hw153, ?hy153⟩) hS ?rest153
                          case hi153 => simp only [List.getElem?_toArray, List.getElem?_cons_succ, List.getElem?_cons_zero]; rfl
                          case hq153 => exact fun _ _ _ h => h
                          case hw153 => rfl
                          case hy153 => intro w hSw; (try dsimp only at hSw); go_simp; (try with_reducible rfl)
                          try simp only [Act.put, List.setIfInBounds_toArray, List.set_cons_zero, List.set_cons_succ]
                          refine wpAnyL_ready (rs := [20]) (by kernel_rfl) (by simp) ?_
                          refine AllReadyL.cons (o := ?o154) ?ho154 (fun K hK => ?_) AllReadyL.nil
                          case ho154 => simp only [List.getElem?_toArray, List.getElem?_cons_succ, List.getElem?_cons_zero]; rfl
                          go_simp
                          refine hK.out _ _ (fun h => absurd rfl h) (fun hS => ?_)
                          clear hS hK K
                          try simp only [Act.put, List.setIfInBounds_toArray, List.set_cons_zero, List.set_cons_succ]
                          refine wpAnyL_done (by kernel_rfl) ?_ _
                          refine NoPanic.normal ?_
                          go_wp2_with fail
                          all_goals (
                            go_meet
                            exact make_data HR3.out HP1.out HM.out hB3u HDL.out hkn HEA.out HVL.out (by omega) (by simp) hown3 (by unfold maxLen; omega))
                      case rest =>
                        obtain ⟨w6, rfl⟩ : ∃ w6 : World, w6 = wc := ⟨_, rfl⟩
                        rw [← ents_new HFN.out] at hcut
                        have HT6 : Hid (RTurn F w3 r (aput ilt (i : Int) (freshM kind) T) (.tuple #[]) (.returned (.tuple #[])) w6) := hcut
                        have HAD := Lib.hid (radd_tr d2 n2 i x2 w6 HT6.out.2.2 HL1.out HX1.out.1 HX1.out.2)
                        clear hcut
                        go_wp2_with fail
                        (with_reducible refine HAD.out.mono ?_)
                        rintro e w7 ht7
                        have HT7 := Lib.hid ht7
                        obtain rfl := ht7.1
                        clear ht7
                        go_wp2_with fail
                        go_ret2
                        rw [HQ.out]
                        exact (RTurnP.behind HH.out.low HB3.out (HT6.out.trans HR3.out.low HT7.out)).val _
      · rw [if_pos h3] at hme
        have HQ := Lib.hid (makeM_bad hme h3)
        generalize placeM T ls = pl at *
        obtain ⟨d2, n2, e2⟩ := pl
        simp only at h3 HQ H3
        have hne : (e2 == 0) = false := by simpa using h3
        have hne2 : (e2 != 0) = true := by simpa using h3
        clear h hT hS hE h3 hme h0 hkk hkb hk12 hc
        cases kb
        all_goals (
          go_enter Tryz.func22, Tryz.ntmps22
          go_wp2_with fail
          (with_reducible refine H1.out.mono ?_)
          rintro e w1 ⟨rfl, hb1⟩
          have HB1 := Lib.hid hb1
          clear hb1
          go_wp2_with fail
          (with_reducible refine (H3.out w1 HB1.out).mono ?_)
          rintro e w3 ⟨rfl, hb3⟩
          have HB3 := Lib.hid (HB1.out.trans (hb3.mono HB1.out.size))
          clear hb3
          go_wp2_with fail
          go_ret2
          exact RTurn.noMk HH.out HB3.out HQ.out)
    · have HQ := Lib.hid (makeM_bad (v := 30) (T := T) (p := ls) (kind := kind) (by unfold makeE; rw [h0, if_neg (by simp), if_pos hkk]) (by omega))
      have hb1 : (kind != 1) = true := by simp; omega
      have hb2 : (kind != 2) = true := by simp; omega
      clear h hT hS hE h0 hkk hc
      go_enter Tryz.func22, Tryz.ntmps22
      go_wp2_with fail
      (with_reducible refine H1.out.mono ?_)
      rintro e w1 ⟨rfl, hb1⟩
      have HB1 := Lib.hid hb1
      clear hb1
      go_wp2_with fail
      go_ret2
      exact RTurn.noMk HH.out HB1.out HQ.out
  · have HQ := Lib.hid (makeM_bad (v := fineL ls) (T := T) (p := ls) (kind := kind) (by unfold makeE; rw [if_pos h0]) h0)
    generalize fineL ls = f0 at *
    have hne : (f0 == 0) = false := by simpa using h0
    have hne2 : (f0 != 0) = true := by simpa using h0
    clear h hT hS hE h0 hc
    go_enter Tryz.func22, Tryz.ntmps22
    go_wp2_with fail
    (with_reducible refine H1.out.mono ?_)
    rintro e w1 ⟨rfl, hb1⟩
    have HB1 := Lib.hid hb1
    clear hb1
    go_wp2_with fail
    go_ret2
    exact RTurn.noMk HH.out HB1.out HQ.out
end
end Go.Proofs.YtbapdoicejakhaaGreat
