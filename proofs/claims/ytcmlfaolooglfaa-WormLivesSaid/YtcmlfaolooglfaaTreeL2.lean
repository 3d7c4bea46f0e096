/- tree: place. -/
import Derived.Test.YtcmlfaolooglfaaTreeL
namespace Go.Proofs.Ytcmlfaolooglfaa
open Go.ChangeShapes Go.WideShapes Go.ChangeAt Go.RowKit
set_option linter.unusedVariables false
set_option linter.unusedSimpArgs false

theorem ret3_place {a b : Value} {s t : ByteArray} {c d : Int} (h : (a, s, c) = (b, t, d)) : Ending.returned (.tuple #[a, .string s, .int .i64 c]) = .returned (.tuple #[b, .string t, .int .i64 d]) := by
  cases h; rfl
/-- What place gives. -/
def RetPlace (T : TrM) (ib : Int → Nat) (ls : List Nm) (w : World) (e : Ending) (w' : World) : Prop :=
  e = .returned (.tuple #[if (placeM T ls).2.2 = 0 then ptr (ib (placeM T ls).1) else .pointer none, .string (strOf (placeM T ls).2.1), .int .i64 (placeM T ls).2.2]) ∧ Below w.heap.size w w'
set_option maxHeartbeats 4000000 in
theorem place_any {S : Nat → Prop} {g : Nat → Own} {D : Nat → Prop} {p mb : Nat} {ib nb : Int → Nat} {T : TrM} (a : Option Addr) (n c : Nat) (ls : List Nm) (w : World) (h : TreeAt g D w p mb ib nb T) (hT : OkM T) (hS : StrsAt S w a n (ls.map strOf)) (hc : n ≤ c) (hn8 : n ≤ 1000000) :
    Calls Try.prog 22 #[ptr p, .slice a n c] w (RetPlace T ib ls w) := by
  have hln : ls.length = n := by have := hS.length; simpa using this
  have HH := Lib.hid h
  have HT := Lib.hid hT
  have HL := Lib.hid hln
  have hpar := parent_any a n c (ls.map strOf) w hS (by omega) hc
  have HP := Lib.hid hpar
  clear h hT hS hln hpar
  by_cases hl0 : ls = []
  · subst hl0
    go_enter Try.func22, Try.ntmps22
    go_wp2_with fail
    (with_reducible refine HP.out.mono ?_)
    rintro e w1 (⟨_, rfl, rfl⟩ | ⟨_, _, x, hx, _⟩)
    · go_wp2_with fail
      go_ret3
      exact ⟨rfl, Below.refl _ _⟩
    · cases hx
  · have HL0 := Lib.hid hl0
    clear hl0
    go_enter Try.func22, Try.ntmps22
    go_wp2_with fail
    (with_reducible refine HP.out.mono ?_)
    rintro e w1 (⟨h0, _⟩ | ⟨gb, cap, x, hx, rfl, hca, hS1, hb1⟩)
    · exact absurd (List.map_eq_nil_iff.1 h0) HL0.out
    · have hdl : (ls.map strOf).dropLast = ls.dropLast.map strOf := by simp [List.map_dropLast]
      rw [hdl] at hS1
      have hxl : x = strOf (ls.getLastD []) := by
        rw [List.getLast?_map] at hx
        cases hq : ls.getLast? with
        | none => rw [hq] at hx; cases hx
        | some y =>
          rw [hq] at hx
          simp only [Option.map_some, Option.some.injEq] at hx
          rw [← hx]
          cases ls with
          | nil => cases hq
          | cons z r => rw [List.getLast?_eq_some_getLast (by simp)] at hq; simp only [Option.some.injEq] at hq; rw [← hq, List.getLastD_eq_getLast?, List.getLast?_eq_some_getLast (by simp)]; rfl
      subst hxl
      obtain ⟨m, hm⟩ : ∃ m, m = (ls.map strOf).length - 1 := ⟨_, rfl⟩
      obtain ⟨nl, hnl⟩ : ∃ nl, nl = ls.getLastD [] := ⟨_, rfl⟩
      rw [← hm] at hS1 hca ⊢
      rw [← hnl] at hx ⊢
      have HNL := Lib.hid hnl
      clear hm hnl
      have hb1s := hb1.size
      have hA1 := HH.out.below hb1 (Nat.le_refl _)
      have HLK := Lib.hid (look_any (some ⟨gb, 0, none⟩) m cap ls.dropLast w1 hA1 HT.out hS1)
      have HA1 := Lib.hid hA1
      have HB1 := Lib.hid hb1
      clear hA1 hb1 hx hdl hS1 HP hca
      obtain ⟨hc0, hpw, hmw⟩ := HA1.out.cell
      have hmap := Lib.hid HA1.out.map
      by_cases he : (lookM T 0 ls.dropLast).2 = 0
      · obtain ⟨y, hy⟩ := Option.isSome_iff_exists.1 (lookM_there HT.out ls.dropLast 0 (root_there HT.out) he)
        have HE := Lib.hid he
        obtain ⟨d, hd⟩ : ∃ d, d = (lookM T 0 ls.dropLast).1 := ⟨_, rfl⟩
        rw [← hd] at hy HLK
        rw [he] at HLK
        have HD := Lib.hid hd
        have HY := Lib.hid hy
        clear hy he hd
        have hids := HT.out.ids d y HY.out
        have hok : intK.ok d := okInt hids.1 (by omega)
        obtain ⟨c0, c1, c2, c3, c4, c5, c7, hiw⟩ := (HA1.out.item d y HY.out).cell
        have hget : aget d (T.map fun q => (q.1, ptr (ib q.1))) = some (ptr (ib d)) := by rw [aget_ptr, HY.out]; rfl
        have HG := Lib.hid hget
        have hkm : kindM T (lookM T 0 ls.dropLast).1 = y.kind := by rw [← HD.out]; unfold kindM; rw [HY.out]
        have HKM := Lib.hid hkm
        clear hget hkm c7
        by_cases hk2 : y.kind = 2
        · have hpl : placeM T ls = (d, nl, 0) := by
            unfold placeM
            rw [if_neg HL0.out, if_neg (by rw [HE.out]; simp), if_pos (HKM.out.trans hk2), ← HD.out, ← HNL.out]
          have HPL := Lib.hid hpl
          rw [hk2] at c1
          clear hk2 hpl
          go_wp2_with fail
          (with_reducible refine HLK.out.mono ?_)
          rintro e w2 ⟨rfl, rfl⟩
          go_wp2_with (first | (at_lookup; refine wpList_look intK rfl _ _ 51 49 rfl Try.underlying51 (Try.zeroItem _) rfl hmap.out d rfl hok ?_; rw [HG.out]))
          go_ret3
          exact ⟨by rw [HPL.out]; rfl, HB1.out⟩
        · have hpl : placeM T ls = (0, [], 23) := by
            unfold placeM
            rw [if_neg HL0.out, if_neg (by rw [HE.out]; simp), if_neg (by rw [HKM.out]; exact hk2)]
          have HPL := Lib.hid hpl
          have e1 : (y.kind == 2) = false := by simpa using hk2
          clear hk2 hpl
          go_wp2_with fail
          (with_reducible refine HLK.out.mono ?_)
          rintro e w2 ⟨rfl, rfl⟩
          go_wp2_with (first | (at_lookup; refine wpList_look intK rfl _ _ 51 49 rfl Try.underlying51 (Try.zeroItem _) rfl hmap.out d rfl hok ?_; rw [HG.out]))
          go_ret3
          exact ⟨by rw [HPL.out]; rfl, HB1.out⟩
      · have hpl : placeM T ls = (0, [], (lookM T 0 ls.dropLast).2) := by
          unfold placeM
          rw [if_neg HL0.out, if_pos he]
        have hne : ((lookM T 0 ls.dropLast).2 == 0) = false := by simpa using he
        have HPL := Lib.hid hpl
        have HE := Lib.hid he
        generalize hgg : lookM T 0 ls.dropLast = r at HLK hne HE HPL
        have HGG := Lib.hid hgg
        clear hpl he hgg
        go_wp2_with fail
        (with_reducible refine HLK.out.mono ?_)
        rintro e w2 ⟨rfl, rfl⟩
        go_wp2_with fail
        go_ret3
        exact ⟨by rw [HPL.out, if_neg HE.out]; rfl, HB1.out⟩
end Go.Proofs.Ytcmlfaolooglfaa
