/- (*tree.Tree).Save. Trees with marks: what turns them, copies, what is committed. package snap: New, find. -/
import Derived.Test.YtmabllemjkcobaaGreatDoorM20
import Derived.Test.YtmabllemjkcobaaGreatDoorM22
import Derived.Test.YtmabllemjkcobaaGreatDoorM19
import Derived.Test.YtmabllemjkcobaaGreatDoorM23
namespace Go.Proofs.YtmabllemjkcobaaGreatDoor
open Go.ChangeShapes Go.WideShapes Go.ChangeAt Go.RowKit
set_option linter.unusedVariables false
set_option linter.unusedSimpArgs false

section
variable {g : Nat → Own} {D : Nat → Prop} {p mb : Nat} {ib nb : Int → Nat} {T : TrM}
/-- A block that a writer leaves alone, from a world on. -/
theorem WMore.other {B x : Nat} {w w' : World} {v v' : Value} {bs : List UInt8} (h : WMore B w x v bs v' w') {b : Nat} (hb : b < w.heap.size) (hx : b ≠ x) (hv : v.ownBlock ≠ some b) : w'.heap[b]? = w.heap[b]? ∧ v'.ownBlock ≠ some b :=
  ⟨h.2.1.block b hb fun hf => hf.elim hx hv, fun he => by
    rcases h.2.2 b he with h1 | h1
    · exact hv h1
    · omega⟩
/-- '[]byte(s)': a new row. -/
theorem conv_new (w : World) (l : List UInt8) (hl : l.length ≤ 1000) : ∃ cap w1, (convert 9 26 (.string (strOf l))).run Tryz.prog w = .ok (.slice (some ⟨w.heap.size, 0, none⟩) l.length cap) w1 ∧ Below w.heap.size w w1 ∧ w.heap.size < w1.heap.size ∧ l.length ≤ cap ∧ RowAt (fun b => b = w.heap.size) w1 (some ⟨w.heap.size, 0, none⟩) l.length (l.map bv) := by
  have h := Lib.run_convert_string_bytes (P := Tryz.prog) w 9 26 5 (strOf l) Tryz.underlying9 Tryz.underlying26 Tryz.underlying5
  rw [strOf_size] at h
  refine ⟨_, _, h, ⟨rfl, rfl, rfl, by rw [Lib.bytesWorld_size]; omega, fun k hk => Lib.bytesWorld_at_old w _ _ k hk⟩, by rw [Lib.bytesWorld_size]; omega, grownCap_ge _ _ _ _, ⟨by simp, by unfold maxLen; omega, fun h0 => ⟨w.heap.size, 0, rfl, rfl, by rw [Lib.bytesWorld_size]; omega, fun i hi => ?_⟩⟩⟩
  rw [Nat.zero_add, Lib.bytesWorld_cell w _ _ i (by rw [strOf_size]; exact hi)]
  have e1 : (strOf l).data.toList = l := rfl
  rw [e1, List.getElem?_map, List.getElem?_eq_getElem hi, List.getD_eq_getElem?_getD, List.getElem?_eq_getElem hi]
  rfl
/-- What is known of an item, in each world that comes. -/
structure ItemF (w : World) (D : Nat → Prop) (p mb : Nat) (ib nb : Nat) (k : Int) (x : ItM) (T' : List (Int × Value)) (a : Option Addr) (c : Nat) : Prop where
  c0 : w.cell? ⟨ib, 0, none⟩ = some (.int .i64 k)
  c1 : w.cell? ⟨ib, 1, none⟩ = some (.int .i64 x.kind)
  c2 : w.cell? ⟨ib, 2, none⟩ = some (.int .i64 x.links)
  c3 : w.cell? ⟨ib, 3, none⟩ = some (.int .i64 x.b.length)
  c4 : w.cell? ⟨ib, 4, none⟩ = some (.int .u64 x.til)
  c5 : w.cell? ⟨ib, 5, none⟩ = some (.bool x.closed)
  c6 : w.cell? ⟨ib, 6, none⟩ = some (.slice a x.b.length c)
  c7 : w.cell? ⟨ib, 7, none⟩ = some (namesV x nb)
  row : RowAt D w a x.b.length (x.b.map bv)
  head : w.cell? ⟨p, 0, none⟩ = some (.map (some mb))
  map : MapAt intK w mb T'
  names : x.kind = 2 → MapAt strK w nb (nameL x)
theorem item_facts {w : World} (h : TreeAt g D w p mb ib nb T) {k : Int} {x : ItM} (hx : aget k T = some x) : ∃ a c, x.b.length ≤ c ∧ ∀ w', Below w.heap.size w w' → ItemF w' D p mb (ib k) (nb k) k x (T.map fun q => (q.1, ptr (ib q.1))) a c := by
  obtain ⟨⟨a, c, hblk, hcap, hrow⟩, _⟩ := h.item k x hx
  have hiw := (Array.getElem?_eq_some_iff.1 hblk).1
  refine ⟨a, c, hcap.1, fun w' hb => ?_⟩
  have h' := h.below hb (Nat.le_refl _)
  obtain ⟨c0, c1, c2, c3, c4, c5, c7, _⟩ := (h'.item k x hx).cell
  refine ⟨c0, c1, c2, c3, c4, c5, ?_, c7, hrow.below hb (Nat.le_refl _), h'.cell.1, h'.map, fun hk => (h'.item k x hx).names hk⟩
  rw [hb.cell (p := ⟨ib k, 6, none⟩) hiw]
  simp only [World.cell?, hblk]
  rfl
set_option maxRecDepth 100000 in
set_option maxHeartbeats 8000000 in
theorem save_at (w : World) (h : TreeAt g D w p mb ib nb T) (hT : OkM T) : Calls Tryz.prog 52 #[ptr p] w (RetRow w (saveB T)) := by
  have HTR := Lib.hid h
  have HT := Lib.hid hT
  have hlen := hT.len
  obtain ⟨N, hN⟩ : ∃ N, N = T.length := ⟨_, rfl⟩
  have HNN := Lib.hid hN
  rw [← hN] at hlen
  clear h hT hN
  go_enter Tryz.func52, Tryz.ntmps52
  go_wp2_with fail
  (with_reducible refine (newWriter_any w).mono ?_)
  rintro e w1 ⟨rfl, hW1, hb1⟩
  have HW1 := Lib.hid hW1
  have HB1 := Lib.hid hb1
  have h1 := HTR.out.below hb1 (Nat.le_refl _)
  have hs1 := hb1.size
  obtain ⟨hc0, hpw, hmw⟩ := h1.cell
  have HM1 := Lib.hid h1.map
  have HS1 := Lib.hid (short_any hW1 (N : Int) (by omega) (by omega) (by simp))
  clear h1 hW1 hb1
  go_wp2_with (at_len; refine wpList_mlen intK rfl _ 95 88 rfl Tryz.underlying95 rfl HM1.out ?_; rw [List.length_map, ← HNN.out])
  (with_reducible refine HS1.out.mono ?_)
  rintro e w2 ⟨rfl, v2, hm2⟩
  have HW2 := Lib.hid hm2.1
  have HB2 := Lib.hid (HB1.out.trans (hm2.low HW1.out))
  have HID := Lib.hid (ids_any w2 (HTR.out.below HB2.out (Nat.le_refl _)) (by rw [← HNN.out]; omega))
  clear hm2 HS1 hc0 hpw hmw HM1 HB1
  go_wp2_with fail
  (with_reducible refine HID.out.mono ?_)
  rintro e w3 ⟨a3, c3, rfl, hc3, hr3, hb3⟩
  have hil : (idsM T).length = N := by unfold idsM; rw [List.length_map, HNN.out]
  rw [hil] at hc3 hr3 ⊢
  have HW3 := Lib.hid (HW2.out.below hb3)
  have HB3 := Lib.hid (HB2.out.trans (hb3.mono HB2.out.size))
  have HR3 := Lib.hid hr3
  have HOB : Hid (∀ b, w2.heap.size ≤ b → b ≠ w.heap.size ∧ v2.ownBlock ≠ some b) := fun b hb => ⟨by have := HW2.out.lt; omega, fun he => by have := own_lt HW2.out.own b he; omega⟩
  clear hb3 hr3 HID HW2
  go_wp2_with fail
  go_loopw [22] (fun iv wr => ∃ (i : Nat) (v' : Value), i ≤ N ∧ iv = .int .i64 i ∧ WMore w.heap.size w3 w.heap.size v2 (beB (N : Int) 2 ++ (T.take i).flatMap fun q => itemB q.1 q.2) v' wr) (fun iv _ => N - (intOf iv).toNat)
  case atStart => exact ⟨0, v2, by omega, rfl, by simpa using WMore.refl HW3.out⟩
  case round =>
    obtain ⟨i, v', hi, rfl, hm⟩ := hrel
    have HM := Lib.hid hm
    have HBR := Lib.hid (HB3.out.trans (hm.low HW3.out))
    clear hm
    by_cases hin : i < N
    · have hd1 : decide ((i : Int) < (N : Int)) = true := by simpa using hin
      obtain ⟨e, he⟩ : ∃ e, T[i]? = some e := ⟨_, List.getElem?_eq_getElem (by have := HNN.out; omega)⟩
      obtain ⟨k, x⟩ := e
      have hmem : (k, x) ∈ T := List.mem_of_getElem? he
      have hx : aget k T = some x := aget_of_mem iltLaws HT.out.sorted hmem
      obtain ⟨ab, cb, hcb, hF⟩ := item_facts HTR.out hx
      have O1 := Lib.hid (HT.out.each k x hx)
      have hids := HT.out.ids k x hx
      have hok : intK.ok k := okInt hids.1 (by omega)
      have HG : Hid (aget k (T.map fun q => (q.1, ptr (ib q.1))) = some (ptr (ib k))) := by rw [aget_ptr, hx]; rfl
      obtain ⟨b3, o3, rfl, hS3, hb3w, hcc⟩ := HR3.out.at_ (by omega)
      have hob := HOB.out b3 hS3.1
      have ck : wr.cell? ⟨b3, o3 + i, none⟩ = some (.int .i64 k) := by
        rw [World.cell?_of_block (w := w3) (w' := wr) (a := ⟨b3, o3 + i, none⟩) (HM.out.other hb3w hob.1 hob.2).1, hcc i hin]
        unfold idsM
        rw [List.getElem?_map, List.getElem?_map, he]
        rfl
      have FR := hF wr HBR.out
      have HF := Lib.hid hF
      have HX := Lib.hid hx
      have HE := Lib.hid he
      have c0 := FR.c0
      have c1 := FR.c1
      have c2 := FR.c2
      have c3' := FR.c3
      have c4 := FR.c4
      have c5 := FR.c5
      have p0 := FR.head
      have HMAP := Lib.hid FR.map
      have hen := encode_any k x O1.out hids.1 hids.2 wr
      unfold nodeV at hen
      have HEN := Lib.hid hen
      have hi0 : (0 : Int) ≤ (i : Int) := by omega
      have hiN : (i : Int) < (N : Int) := by omega
      clear hx he hmem hF FR hen hcc
      go_wp2_with (first | (at_lookup; refine wpList_look intK rfl _ _ 95 88 rfl Tryz.underlying95 (Tryz.zeroItem _) rfl HMAP.out k rfl hok ?_; rw [HG.out]))
      (with_reducible refine HEN.out.mono ?_)
      rintro e w4 ⟨ae, ne, ce, rfl, hce, hre, hbe⟩
      have hne : ne = 16 := by have h9 := hre.length; rw [List.length_map, encB_len] at h9; omega
      subst hne
      obtain ⟨bs0, hbs0⟩ : ∃ bs0, bs0 = (beB (N : Int) 2 ++ (T.take i).flatMap fun q => itemB q.1 q.2) := ⟨_, rfl⟩
      rw [← hbs0] at HM
      have hl0 : bs0.length ≤ 5800000 := by
        have h9 := items_len HT.out (T.take i) fun q hq => List.mem_of_mem_take hq
        rw [List.length_take] at h9
        rw [hbs0, List.length_append, beB_len]
        omega
      have HBS := Lib.hid hbs0
      have hW4 := HM.out.1.below hbe
      have HW4 := Lib.hid hW4
      have HB4 := Lib.hid (HBR.out.trans (hbe.mono HBR.out.size))
      have hxr := HM.out.1.lt
      have HY1 := Lib.hid (bytes_w hW4 ae 16 ce (encB k x) hre (fun b hb => ⟨by omega, fun he => by have := own_lt HM.out.1.own b he; omega⟩) hce (by omega) (by omega))
      have HM4 := Lib.hid (HM.out.below hbe)
      clear hbs0 hW4 hre hbe hce HEN ck c0 c1 c2 c3' c4 c5 p0 HMAP
      go_wp2_with fail
      (with_reducible refine HY1.out.mono ?_)
      rintro e w5 ⟨rfl, v5, hm5⟩
      have HM5 := Lib.hid (HM4.out.trans hm5)
      have HB5 := Lib.hid (HB4.out.trans ((hm5.low HW4.out).mono (Nat.le_refl _)))
      have F5 := HF.out w5 HB5.out
      have c6 := F5.c6
      have hbl := O1.out.size
      have HDL := Lib.hid HTR.out.dlow
      have HY2 := Lib.hid (bytes_w hm5.1 ab x.b.length cb x.b F5.row (fun b hb => ⟨by have := HDL.out b hb; omega, fun he => by have := own_block_ge hm5.1.own b he; have := HDL.out b hb; omega⟩) hcb (by simp only [List.length_append, encB_len, beB_len]; omega) (by omega))
      clear hm5 F5 HY1 HW4 HB4 HM4
      go_wp2_with fail
      (with_reducible refine HY2.out.mono ?_)
      rintro e w6 ⟨rfl, v6, hm6⟩
      have HB6 := Lib.hid (HB5.out.trans (hm6.low HM5.out.1))
      have HM6 := Lib.hid (HM5.out.trans hm6)
      clear hm6 HY2 c6 HM5 HB5
      have hfew := HT.out.few HX.out
      have F6 := HF.out w6 HB6.out
      have c7 := F6.c7
      obtain ⟨L, hL⟩ : ∃ L, L = x.names.length := ⟨_, rfl⟩
      have HLL := Lib.hid hL
      have hlb : (bs0 ++ (beB ((16 : Nat) : Int) 2 ++ encB k x) ++ (beB (x.b.length : Int) 2 ++ x.b)).length ≤ 5900000 := by simp only [List.length_append, encB_len, beB_len]; omega
      have HSH := Lib.hid (short_any HM6.out.1 (L : Int) (by omega) (by omega) (by omega))
      by_cases hk2 : x.kind = 2
      · have e2 : namesV x (nb k) = .map (some (nb k)) := if_pos hk2
        rw [e2] at c7
        have HN := Lib.hid (F6.names hk2)
        have HK2 := Lib.hid hk2
        clear F6 hk2 e2 hL
        go_wp2_with (at_len; refine wpList_mlen strK rfl _ 92 3 rfl Tryz.underlying92 rfl HN.out ?_; rw [nameL, List.length_map, ← HLL.out])
        (with_reducible refine HSH.out.mono ?_)
        rintro e w7 ⟨rfl, v7, hm7⟩
        have hB7 := HB6.out.trans (hm7.low HM6.out.1)
        have HB7 := Lib.hid hB7
        have HM7 := Lib.hid (HM6.out.trans hm7)
        have e2 : namesV x (nb k) = .map (some (nb k)) := if_pos HK2.out
        have c7 := (HF.out w7 hB7).c7
        have hkk := Tryz.keysOfS (some (nb k)) w7
        have hso := sorted_at k x w7 (HTR.out.below hB7 (Nat.le_refl _)) HT.out HX.out
        rw [e2] at c7 hso
        have hll : (x.names.map (·.1)).length = L := by rw [List.length_map, HLL.out]
        have HSO := Lib.hid hso
        have hwa := wall w7 (.cells #[.map (some (nb k))] 92)
        clear hm7 hB7 e2 hso HSH HM6 HB6 HN
        go_wp2_with (go_at_call 122; refine hkk.mono ?_; rintro e w' ⟨rfl, rfl⟩)
        (with_reducible refine HSO.out.mono ?_)
        rintro e w8 ⟨a8, c8, rfl, hc8, hs8, hb8⟩
        rw [hll] at hs8 hc8 ⊢
        have hb78 : Below w7.heap.size w7 w8 := hwa.trans (hb8.mono hwa.size)
        have HB8 := Lib.hid (HB7.out.trans (hb78.mono HB7.out.size))
        have HM8 := Lib.hid (HM7.out.below hb78)
        have HS8 := Lib.hid hs8
        have HO8 : Hid (∀ b, w7.heap.size < b → b ≠ w.heap.size ∧ v7.ownBlock ≠ some b) := fun b hb => ⟨by have := HM7.out.1.lt; omega, fun he => by have := own_lt HM7.out.1.own b he; omega⟩
        have hsz8 : (w7.alloc (.cells #[.map (some (nb k))] 92)).heap.size = w7.heap.size + 1 := by simp
        clear hb78 hb8 hwa hkk hs8 HSO HB7 c7
        go_wp2_with fail
        go_loopw [63] (fun jv wr2 => ∃ (j : Nat) (vj : Value), j ≤ L ∧ jv = .int .i64 j ∧ WMore w.heap.size w8 w.heap.size v7 (bs0 ++ (beB ((16 : Nat) : Int) 2 ++ encB k x) ++ (beB (x.b.length : Int) 2 ++ x.b) ++ beB (L : Int) 2 ++ (x.names.take j).flatMap nmB) vj wr2) (fun jv _ => L - (intOf jv).toNat)
        case atStart => exact ⟨0, v7, by omega, rfl, by simpa using WMore.refl HM8.out.1⟩
        case round =>
          obtain ⟨j, vj, hj, rfl, hmj⟩ := hrel
          have HMJ := Lib.hid hmj
          have HBJ := Lib.hid (HB8.out.trans (hmj.low HM8.out.1))
          clear hmj
          by_cases hjL : j < L
          · have hd2 : decide ((j : Int) < (L : Int)) = true := by simpa using hjL
            obtain ⟨en, hen⟩ : ∃ en, x.names[j]? = some en := ⟨_, List.getElem?_eq_getElem (by have := HLL.out; omega)⟩
            obtain ⟨nm, id⟩ := en
            have hmemn : (nm, id) ∈ x.names := List.mem_of_getElem? hen
            have hgn := aget_of_mem bbLt O1.out.sorted hmemn
            have hg16 : nm.length ≤ 16 := goodL_len16 (O1.out.good _ hmemn)
            have hled := HT.out.leads k x HX.out _ hmemn
            obtain ⟨y, hy⟩ := Option.isSome_iff_exists.1 hled.1
            have hid2 : 0 ≤ id ∧ id ≤ 65535 := HT.out.ids _ _ hy
            obtain ⟨b8, o8, s, rfl, hS8, hb8w, hs, hsl, hc8c⟩ := HS8.out.cell j hjL
            rw [List.getElem?_map, List.getElem?_map, hen] at hs
            obtain rfl : strOf nm = s := by simpa using hs
            have ho8 := HO8.out b8 (by omega)
            have cn : wr.cell? ⟨b8, o8 + j, none⟩ = some (.string (strOf nm)) := (World.cell?_of_block (w := w8) (w' := wr) (a := ⟨b8, o8 + j, none⟩) (HMJ.out.other hb8w ho8.1 ho8.2).1).trans hc8c
            obtain ⟨cn9, wc, hrun, hbc, hltc, hccap, hcells⟩ := conv_new wr nm (by omega)
            have hrow : RowAt (fun b => b = wr.heap.size) wc (some ⟨wr.heap.size, 0, none⟩) nm.length (nm.map bv) := hcells
            have hWC := HMJ.out.1.below hbc
            have hxw := HMJ.out.1.lt
            have hlj : (bs0 ++ (beB ((16 : Nat) : Int) 2 ++ encB k x) ++ (beB (x.b.length : Int) 2 ++ x.b) ++ beB (L : Int) 2 ++ (x.names.take j).flatMap nmB).length ≤ 6000000 := by
              have h9 := nms_len (x.names.take j) fun e he => goodL_len16 (O1.out.good e (List.mem_of_mem_take he))
              rw [List.length_take] at h9
              simp only [List.length_append, encB_len, beB_len] at hlb ⊢
              omega
            have HY3 := Lib.hid (bytes_w hWC (some ⟨wr.heap.size, 0, none⟩) nm.length cn9 nm hrow (fun b hb => ⟨by rw [hb]; omega, fun he => by have := own_lt HMJ.out.1.own b he; omega⟩) hccap (by omega) (by omega))
            have HMC := Lib.hid (HMJ.out.below hbc)
            have HBC := Lib.hid (HBJ.out.trans (hbc.mono HBJ.out.size))
            have HGN := Lib.hid hgn
            have HEN2 := Lib.hid hen
            have hj0 : (0 : Int) ≤ (j : Int) := by omega
            have hL4 : L ≤ 4096 := by have := HLL.out; omega
            have ew : IntKind.i64.wrap ((j : Int) + 1) = (j : Int) + 1 := IntWalk.i64_in _ (by omega)
            have hjL' : (j : Int) < (L : Int) := by omega
            clear hen hmemn hgn hled hy hs hsl hc8c hrow hWC hbc hcells
            go_wp2_with fail
            (with_reducible refine HY3.out.mono ?_)
            rintro e w10 ⟨rfl, v10, hm10⟩
            have HM10 := Lib.hid (HMC.out.trans hm10)
            have HB10 := Lib.hid (HBC.out.trans (hm10.low HMC.out.1))
            have F10 := HF.out w10 HB10.out
            have c7 := F10.c7
            have e2 : namesV x (nb k) = .map (some (nb k)) := if_pos HK2.out
            rw [e2] at c7
            have HN10 := Lib.hid (F10.names HK2.out)
            have HG10 : Hid (aget nm (nameL x) = some (.int .i64 id)) := by rw [aget_nameL, HGN.out]; rfl
            have hnml : nm.length ≤ maxLen := by unfold maxLen; omega
            have HS10 := Lib.hid (short_any HM10.out.1 id hid2.1 (by omega) (by simp only [List.length_append, encB_len, beB_len] at hlj ⊢; omega))
            clear hm10 F10 e2 hrun
            go_wp2_with (at_lookup; refine wpList_look strK rfl _ _ 92 3 rfl Tryz.underlying92 (Tryz.zeroInt _) rfl HN10.out nm rfl hnml ?_; rw [HG10.out])
            (with_reducible refine HS10.out.mono ?_)
            rintro e w11 ⟨rfl, v11, hm11⟩
            have hM11 := HM10.out.trans hm11
            have hby : bs0 ++ (beB ((16 : Nat) : Int) 2 ++ encB k x) ++ (beB (x.b.length : Int) 2 ++ x.b) ++ beB (L : Int) 2 ++ (x.names.take j).flatMap nmB ++ (beB (nm.length : Int) 2 ++ nm) ++ beB id 2 = bs0 ++ (beB ((16 : Nat) : Int) 2 ++ encB k x) ++ (beB (x.b.length : Int) 2 ++ x.b) ++ beB (L : Int) 2 ++ (x.names.take (j + 1)).flatMap nmB := by
              rw [List.take_add_one, HEN2.out, List.flatMap_append]
              simp [nmB, rowB, List.append_assoc]
            rw [hby] at hM11
            have HM11 := Lib.hid hM11
            clear hM11 hby hm11
            go_wp2_with fail
            go_roundw
            case rel => exact ⟨j + 1, v11, by omega, by go_num, HM11.out⟩
            case measure =>
              simp only [intOf]
              omega
          · have hd2 : decide ((j : Int) < (L : Int)) = false := by simpa using hjL
            have hfin : bs0 ++ (beB ((16 : Nat) : Int) 2 ++ encB k x) ++ (beB (x.b.length : Int) 2 ++ x.b) ++ beB (L : Int) 2 ++ (x.names.take j).flatMap nmB = (beB (N : Int) 2 ++ (T.take (i + 1)).flatMap fun q => itemB q.1 q.2) := by
              rw [List.take_of_length_le (show x.names.length ≤ j by have := HLL.out; omega), HBS.out, List.take_add_one, HE.out, List.flatMap_append, HLL.out]
              simp [itemB, rowB, encB_len, List.append_assoc]
            have hMN := HM8.out.trans HMJ.out
            rw [hfin] at hMN
            have HMN := Lib.hid hMN
            clear hMN hfin
            go_wp2_with fail
            go_roundw
            case rel => exact ⟨i + 1, vj, by omega, by go_num, HMN.out⟩
            case measure => simp [intOf]; omega
      · have e2 : namesV x (nb k) = .map none := if_neg hk2
        have hnil : x.names = [] := O1.out.file (O1.out.kind.resolve_right hk2)
        obtain rfl : L = 0 := by rw [hL, hnil]; rfl
        rw [e2] at c7
        have HSH0 : Hid (Calls Tryz.prog 118 #[ptr w.heap.size, .int .i64 0] w6 (WTurn w.heap.size w6 w.heap.size v6 (bs0 ++ (beB ((16 : Nat) : Int) 2 ++ encB k x) ++ (beB (x.b.length : Int) 2 ++ x.b) ++ beB ((0 : Nat) : Int) 2))) := HSH.out
        clear F6 hk2 hL
        go_wp2_with fail
        (with_reducible refine HSH0.out.mono ?_)
        rintro e w7 ⟨rfl, v7, hm7⟩
        have hB7 := HB6.out.trans (hm7.low HM6.out.1)
        have HB7 := Lib.hid hB7
        have HM7 := Lib.hid (HM6.out.trans hm7)
        have c7 := (HF.out w7 hB7).c7
        have hkk := Tryz.keysOfS none w7
        have hso := sorted_at k x w7 (HTR.out.below hB7 (Nat.le_refl _)) HT.out HX.out
        rw [e2] at c7 hso
        rw [hnil] at hso
        have HSO := Lib.hid hso
        have HNIL := Lib.hid hnil
        have hwa := wall w7 (.cells #[.map none] 92)
        clear hm7 hB7 e2 hso HSH HSH0 HM6 HB6 hnil
        go_wp2_with (go_at_call 122; refine hkk.mono ?_; rintro e w' ⟨rfl, rfl⟩)
        (with_reducible refine HSO.out.mono ?_)
        rintro e w8 ⟨a8, c8, rfl, hc8, hs8, hb8⟩
        have HM8 := Lib.hid (HM7.out.below (hwa.trans (hb8.mono hwa.size)))
        simp only [List.map_nil, List.length_nil] at hc8 ⊢
        clear hb8 hwa hkk hs8 HSO HB7 c7
        have hfin : bs0 ++ (beB ((16 : Nat) : Int) 2 ++ encB k x) ++ (beB (x.b.length : Int) 2 ++ x.b) ++ beB ((0 : Nat) : Int) 2 = (beB (N : Int) 2 ++ (T.take (i + 1)).flatMap fun q => itemB q.1 q.2) := by
          rw [HBS.out, List.take_add_one, HE.out, List.flatMap_append]
          simp [itemB, rowB, encB_len, HNIL.out, List.append_assoc]
        have hMN := HM8.out
        rw [hfin] at hMN
        have HMN := Lib.hid hMN
        clear hMN hfin HM8 HM7
        go_wp2_with fail
        go_loopw [63] (fun jv wr2 => jv = .int .i64 0 ∧ wr2 = w8) (fun jv _ => 0)
        case atStart => exact ⟨rfl, rfl⟩
        case round =>
          obtain ⟨rfl, rfl⟩ := hrel
          go_wp2_with fail
          go_roundw
          case rel => exact ⟨i + 1, v7, by omega, by go_num, HMN.out⟩
          case measure => simp [intOf]; omega
    · have hd1 : decide ((i : Int) < (N : Int)) = false := by simpa using hin
      have hTi : (beB (N : Int) 2 ++ (T.take i).flatMap fun q => itemB q.1 q.2) = saveB T := by
        rw [List.take_of_length_le (by have := HNN.out; omega), HNN.out]
        rfl
      have hlT : (saveB T).length ≤ 100000000 := by
        have := items_len HT.out T fun q hq => hq
        unfold saveB
        rw [List.length_append, beB_len]
        have := HNN.out
        omega
      have HD := Lib.hid (done_any HM.out.1 (by rw [hTi]; exact hlT))
      rw [hTi] at HD
      go_wp2_with fail
      (with_reducible refine HD.out.mono ?_)
      rintro e w9 ⟨a9, n9, c9, rfl, hc9, hr9, hb9⟩
      have HR9 := Lib.hid hr9
      have HB9 := Lib.hid (HBR.out.trans (hb9.mono HBR.out.size))
      have hsr := HBR.out.size
      clear hr9 hb9
      go_wp2_with fail
      go_ret
      exact ⟨a9, n9, c9, rfl, hc9, HR9.out.mono fun b hb => ⟨by omega, hb.2⟩, HB9.out⟩
end
end Go.Proofs.YtmabllemjkcobaaGreatDoor
namespace Go.Proofs.YtmabllemjkcobaaGreatDoor
open Go.ChangeShapes Go.WideShapes Go.ChangeAt Go.RowKit
set_option linter.unusedVariables false
set_option linter.unusedSimpArgs false

section
variable {W w : World} {o : Mark} {i p : Nat} {T : TrM}
theorem om_link {S S' : Nat → Prop} (h : TreeO o i w p T) (hM : Marks W o w) (hi : i ≠ 0) (hT : OkM T) (a : Option Addr) (n c : Nat) (ls : List Nm) (a' : Option Addr) (n' c' : Nat) (ls' : List Nm) (hS : StrsAt S w a n (ls.map strOf)) (hS' : StrsAt S' w a' n' (ls'.map strOf)) (hc' : n' ≤ c') (hn8 : n' ≤ 1000000) :
    Calls Tryz.prog 43 #[ptr p, .slice a n c, .slice a' n' c'] w (OTurned o i w p (linkM T ls ls').2 (.int .i64 (linkM T ls ls').1)) := by
  obtain ⟨g, D, mb, ib, nb, hA, hg, hD⟩ := h
  exact (link_at a n c ls a' n' c' ls' w hA hT hS hS' hc' hn8).mono fun e w' ht => OTurned.of hM hi hg hD ht
theorem om_unlink {S : Nat → Prop} (h : TreeO o i w p T) (hM : Marks W o w) (hi : i ≠ 0) (hT : OkM T) (a : Option Addr) (n c : Nat) (ls : List Nm) (hS : StrsAt S w a n (ls.map strOf)) (hc : n ≤ c) (hn8 : n ≤ 1000000) :
    Calls Tryz.prog 107 #[ptr p, .slice a n c] w (OTurned o i w p (unlinkM T ls).2 (.int .i64 (unlinkM T ls).1)) := by
  obtain ⟨g, D, mb, ib, nb, hA, hg, hD⟩ := h
  exact (unlink_at a n c ls w hA hT hS hc hn8).mono fun e w' ht => OTurned.of hM hi hg hD ht
theorem om_rmdir {S : Nat → Prop} (h : TreeO o i w p T) (hM : Marks W o w) (hi : i ≠ 0) (hT : OkM T) (a : Option Addr) (n c : Nat) (ls : List Nm) (hS : StrsAt S w a n (ls.map strOf)) (hc : n ≤ c) (hn8 : n ≤ 1000000) :
    Calls Tryz.prog 45 #[ptr p, .slice a n c] w (OTurned o i w p (rmdirM T ls).2 (.int .i64 (rmdirM T ls).1)) := by
  obtain ⟨g, D, mb, ib, nb, hA, hg, hD⟩ := h
  exact (rmdir_at a n c ls w hA hT hS hc hn8).mono fun e w' ht => OTurned.of hM hi hg hD ht
theorem om_rename {S S' : Nat → Prop} (h : TreeO o i w p T) (hM : Marks W o w) (hi : i ≠ 0) (hO : Okay T) (a : Option Addr) (n c : Nat) (ls : List Nm) (a' : Option Addr) (n' c' : Nat) (ls' : List Nm) (hS : StrsAt S w a n (ls.map strOf)) (hS' : StrsAt S' w a' n' (ls'.map strOf)) (hc : n ≤ c) (hn8 : n ≤ 1000000) (hc' : n' ≤ c') (hn8' : n' ≤ 1000000) :
    Calls Tryz.prog 46 #[ptr p, .slice a n c, .slice a' n' c'] w (OTurned o i w p (renameM T ls ls').2 (.int .i64 (renameM T ls ls').1)) := by
  obtain ⟨g, D, mb, ib, nb, hA, hg, hD⟩ := h
  exact (rename_at a n c ls a' n' c' ls' w hA hO hS hS' hc hn8 hc' hn8').mono fun e w' ht => OTurned.of hM hi hg hD ht
theorem om_seal (h : TreeO o i w p T) (hM : Marks W o w) (hi : i ≠ 0) (id til : Int) (hid : (Lit.int .i64 id).wf = true) (ht0 : 0 ≤ til) (ht1 : til ≤ 18446744073709551615) :
    Calls Tryz.prog 103 #[ptr p, .int .i64 id, .int .u64 til] w (OTurned o i w p (sealM T id til).2 (.int .i64 (sealM T id til).1)) := by
  obtain ⟨g, D, mb, ib, nb, hA, hg, hD⟩ := h
  exact (seal_at id til w hA hid ht0 ht1).mono fun e w' ht => OTurned.of hM hi hg hD ht
theorem om_keep (h : TreeO o i w p T) (hM : Marks W o w) (hi : i ≠ 0) (hT : OkM T) (id til : Int) (hid : (Lit.int .i64 id).wf = true) (ht0 : 0 ≤ til) (ht1 : til ≤ 18446744073709551615) :
    Calls Tryz.prog 112 #[ptr p, .int .i64 id, .int .u64 til] w (OTurned o i w p (keepM T id til).2 (.int .i64 (keepM T id til).1)) := by
  obtain ⟨g, D, mb, ib, nb, hA, hg, hD⟩ := h
  exact (keep_at id til w hA hid ht0 ht1 (fun x hx => (hT.each id x hx).til)).mono fun e w' ht => OTurned.of hM hi hg hD ht
theorem om_drop (h : TreeO o i w p T) (hM : Marks W o w) (hi : i ≠ 0) (hT : OkM T) (id : Int) (hid : (Lit.int .i64 id).wf = true) :
    Calls Tryz.prog 117 #[ptr p, .int .i64 id] w (OTurned o i w p (dropM T id).2 (.int .i64 (dropM T id).1)) := by
  obtain ⟨g, D, mb, ib, nb, hA, hg, hD⟩ := h
  exact (drop_at id hT w hA hid).mono fun e w' ht => OTurned.of hM hi hg hD ht
theorem om_save (h : TreeO o i w p T) (hT : OkM T) : Calls Tryz.prog 52 #[ptr p] w (RetRow w (saveB T)) := by
  obtain ⟨g, D, mb, ib, nb, hA, hg, hD⟩ := h
  exact save_at w hA hT
theorem om_ids (h : TreeO o i w p T) (hT : OkM T) : Calls Tryz.prog 116 #[ptr p] w (NewInts w (idsM T)) := by
  obtain ⟨g, D, mb, ib, nb, hA, hg, hD⟩ := h
  exact ids_any w hA (by have := hT.len; omega)
open Classical in
/-- What is new bears a mark. -/
theorem mark_new {W w w' : World} {o : Mark} (hM : Marks W o w) (j : Nat) (G : Nat → Prop) (hG : ∀ b, G b → w.heap.size ≤ b ∧ b < w'.heap.size) (hb : Below w.heap.size w w') : ∃ o', Step o (fun i => i = j) w o' w' ∧ (∀ b, G b → o' b = j) ∧ (∀ b, ¬ G b → o' b = o b) := by
  obtain ⟨o', ho⟩ : ∃ o' : Mark, ∀ b, o' b = if G b then j else o b := ⟨_, fun _ => rfl⟩
  refine ⟨o', ⟨fun b hb' => ?_, fun b hb' hn => ?_, (Keeps.below hb).mono fun x hx hx' => absurd hx (by omega)⟩, fun b hb' => by rw [ho, if_pos hb'], fun b hb' => by rw [ho, if_neg hb']⟩
  · rw [ho, if_neg (fun h => by have := hG b h; omega)]
  · by_cases h : G b
    · rw [ho, if_pos h]; exact ⟨rfl, (hG b h).2⟩
    · rw [ho, if_neg h] at hn; have := (hM.new b hn).2; omega
/-- A copy that may be turned. -/
theorem om_copy (h : TreeO o i w p T) (hM : Marks W o w) (hT : OkM T) (j : Nat) :
    Calls Tryz.prog 58 #[ptr p] w fun e w' => ∃ q o', e = .returned (ptr q) ∧ Step o (fun i => i = j) w o' w' ∧ TreeO o' j w' q T ∧ Below w.heap.size w w' := by
  obtain ⟨g, D, mb, ib, nb, hA, hg, hD⟩ := h
  refine (copy_at w hA hT).mono ?_
  rintro e w' ⟨q, g', mq, ib', nb', rfl, hA', hg', hb⟩
  obtain ⟨o', hs, h1, h2⟩ := mark_new hM j (fun b => g' b ≠ .none) (fun b hb' => ⟨hg' b hb', hA'.low b hb'⟩) hb
  refine ⟨q, o', rfl, hs, ⟨g', D, mq, ib', nb', hA', fun b hb' => h1 b hb', fun b hb' => ?_⟩, hb⟩
  rw [hs.old b (hA.dlow b hb')]
  exact hD b hb'
/-- .. that is never turned. -/
theorem om_copy0 (h : TreeO o i w p T) (hM : Marks W o w) (hT : OkM T) :
    Calls Tryz.prog 58 #[ptr p] w fun e w' => ∃ q, e = .returned (ptr q) ∧ TreeO o 0 w' q T ∧ Below w.heap.size w w' := by
  obtain ⟨g, D, mb, ib, nb, hA, hg, hD⟩ := h
  refine (copy_at w hA hT).mono ?_
  rintro e w' ⟨q, g', mq, ib', nb', rfl, hA', hg', hb⟩
  refine ⟨q, rfl, ⟨g', D, mq, ib', nb', hA', fun b hb' => ?_, hD⟩, hb⟩
  have := hg' b hb'
  by_cases h0 : o b = 0
  · exact h0
  · have := (hM.new b h0).2; omega
end
theorem sum_ge (o : Mark) : ∀ (n b : Nat), b < n → o b ≤ ((List.range n).map o).sum
  | n + 1, b, h => by
    rw [List.range_succ, List.map_append, List.sum_append]
    simp only [List.map_cons, List.map_nil, List.sum_cons, List.sum_nil]
    by_cases hb : b = n
    · rw [hb]; omega
    · have := sum_ge o n b (by omega); omega
/-- There is a mark that nothing bears. -/
theorem fresh_mark {W w : World} {o : Mark} (hM : Marks W o w) : ∃ j, j ≠ 0 ∧ ∀ b, o b ≠ j := by
  refine ⟨((List.range w.heap.size).map o).sum + 1, by omega, fun b hb => ?_⟩
  have h1 := (hM.new b (by omega)).2
  have := sum_ge o w.heap.size b h1
  omega
/-- Some of the files that are not closed are gone. -/
def commitTo (T : TrM) (k : Nat) : TrM := ((idsM T).take k).foldl (fun S id => (dropM S id).2) T
theorem commitTo_zero (T : TrM) : commitTo T 0 = T := by unfold commitTo; rw [List.take_zero]; rfl
theorem commitTo_step {T : TrM} {k : Nat} {id : Int} (h : (idsM T)[k]? = some id) : commitTo T (k + 1) = (dropM (commitTo T k) id).2 := by
  unfold commitTo
  obtain ⟨hk, e⟩ := List.getElem?_eq_some_iff.1 h
  rw [List.take_succ_eq_append_getElem hk, List.foldl_append, e]
  rfl
theorem commitTo_end {T : TrM} : commitTo T T.length = commitM T := by
  unfold commitTo commitM
  rw [List.take_of_length_le (by unfold idsM; rw [List.length_map]; omega)]
theorem OkM.commitTo {T : TrM} (h : OkM T) : ∀ k, OkM (commitTo T k)
  | 0 => by rw [commitTo_zero]; exact h
  | k + 1 => by
    cases hg : (idsM T)[k]? with
    | some id => rw [commitTo_step hg]; exact (h.commitTo k).dropM id
    | none =>
      have : Go.Proofs.YtmabllemjkcobaaGreatDoor.commitTo T (k + 1) = Go.Proofs.YtmabllemjkcobaaGreatDoor.commitTo T k := by
        have hl := List.getElem?_eq_none_iff.1 hg
        unfold Go.Proofs.YtmabllemjkcobaaGreatDoor.commitTo
        rw [List.take_of_length_le hl, List.take_of_length_le (by omega)]
      rw [this]; exact h.commitTo k
theorem Okay.commitTo {T : TrM} (h : Okay T) : ∀ k, Okay (commitTo T k)
  | 0 => by rw [commitTo_zero]; exact h
  | k + 1 => by
    cases hg : (idsM T)[k]? with
    | some id => rw [commitTo_step hg]; exact (h.commitTo k).dropM id
    | none =>
      have : Go.Proofs.YtmabllemjkcobaaGreatDoor.commitTo T (k + 1) = Go.Proofs.YtmabllemjkcobaaGreatDoor.commitTo T k := by
        have hl := List.getElem?_eq_none_iff.1 hg
        unfold Go.Proofs.YtmabllemjkcobaaGreatDoor.commitTo
        rw [List.take_of_length_le hl, List.take_of_length_le (by omega)]
      rw [this]; exact h.commitTo k
theorem OkM.commitM {T : TrM} (h : OkM T) : OkM (commitM T) := by rw [← commitTo_end]; exact h.commitTo _
theorem Okay.commitM {T : TrM} (h : Okay T) : Okay (commitM T) := by rw [← commitTo_end]; exact h.commitTo _
section
variable {W w : World} {o : Mark} {i p : Nat} {T : TrM}
set_option maxRecDepth 100000 in
set_option maxHeartbeats 4000000 in
theorem committed_own (h : TreeO o i w p T) (hM : Marks W o w) (hT : OkM T) (j : Nat) (hj : j ≠ 0) (hf : ∀ b, o b ≠ j) :
    Calls Tryz.prog 51 #[ptr p] w fun e w' => ∃ q o', e = .returned (ptr q) ∧ Step o (fun i => i = j) w o' w' ∧ TreeO o' j w' q (commitM T) ∧ Below w.heap.size w w' := by
  have HCP := Lib.hid (om_copy h hM hT j)
  have HM := Lib.hid hM
  have HT := Lib.hid hT
  have HJ := Lib.hid hj
  have HF := Lib.hid hf
  have hTl := hT.len
  clear h hM hT hj hf
  go_enter Tryz.func51, Tryz.ntmps51
  go_wp2_with fail
  (with_reducible refine HCP.out.mono ?_)
  rintro e w1 ⟨q, o1, rfl, hs1, hT1, hb1⟩
  have HS1 := Lib.hid hs1
  have HM1 := Lib.hid (HM.out.step (fun e => HJ.out e.symm) hs1)
  have HT1 := Lib.hid hT1
  have HID := Lib.hid (om_ids hT1 HT.out)
  clear hs1 hT1 hb1
  go_wp2_with fail
  (with_reducible refine HID.out.mono ?_)
  rintro e w2 ⟨a, cap, rfl, hlc, hrow, hb2⟩
  have hll : (idsM T).length = T.length := by unfold idsM; rw [List.length_map]
  rw [hll] at hlc hrow
  rw [hll]
  obtain ⟨tl, htl⟩ : ∃ tl, tl = T.length := ⟨_, rfl⟩
  rw [← htl] at hTl hlc hrow ⊢
  have HTL := Lib.hid htl
  have HROW := Lib.hid hrow
  have HS2 := Lib.hid (HS1.out.then_ HM.out (fun e => HJ.out e.symm) hb2)
  have HT2 := Lib.hid (HT1.out.grow hb2)
  clear hb2 hrow htl hll
  have HR2 := Lib.hid ((HROW.out.new_free HM1.out))
  clear HROW
  go_wp2_with fail
  go_loopw [4, 12] (fun _ iv wr => ∃ (k : Nat) (o2 : Mark), iv = .int .i64 k ∧ k ≤ tl ∧ Step o (fun i => i = j) w o2 wr ∧ TreeO o2 j wr q (commitTo T k) ∧ RowAt (Free o2 wr) wr a tl ((idsM T).map (Value.int .i64))) (fun _ iv _ => tl - (intOf iv).toNat)
  case atStart =>
    exact ⟨0, o1, rfl, Nat.zero_le _, HS2.out, by rw [commitTo_zero]; exact HT2.out, HR2.out⟩
  case round =>
    obtain ⟨k, o2, rfl, hk, hs, hTk, hrk⟩ := hrel
    have HS := Lib.hid hs
    have HTK := Lib.hid hTk
    have HRK := Lib.hid hrk
    clear hs hTk hrk
    by_cases hlt : k < tl
    · have hd : decide ((k : Int) < (tl : Int)) = true := by simpa using hlt
      obtain ⟨id, hid⟩ : ∃ id, (idsM T)[k]? = some id := ⟨(idsM T)[k]'(by unfold idsM; rw [List.length_map, ← HTL.out]; exact hlt), List.getElem?_eq_getElem _⟩
      obtain ⟨b, off, rfl, hfb, hbw, hc⟩ := HRK.out.at_ (by omega)
      have hck := hc k hlt
      rw [List.getElem?_map, hid] at hck
      have hcell : wr.cell? ⟨b, off + k, none⟩ = some (.int .i64 id) := hck
      have hwf : (Lit.int .i64 id).wf = true := by
        have hm := List.mem_of_getElem? hid
        unfold idsM at hm
        obtain ⟨q', hq', rfl⟩ := List.mem_map.1 hm
        have := HT.out.ids q'.1 q'.2 (aget_of_mem iltLaws HT.out.sorted hq')
        simp [Lit.wf, IntKind.min, IntKind.max, IntKind.signed, IntKind.bits]
        omega
      have HDR := Lib.hid (om_drop HTK.out (HM.out.step (fun e => HJ.out e.symm) HS.out) HJ.out (HT.out.commitTo k) id hwf)
      have i0 : (0 : Int) ≤ (k : Int) := by omega
      have i1 : (k : Int) < (tl : Int) := by omega
      have HIDK := Lib.hid hid
      clear hid hfb hbw hc hck hwf
      go_wp2_with fail
      (with_reducible refine HDR.out.mono ?_)
      rintro e w3 ⟨rfl, o3, hs3, hT3⟩
      have HS3 := Lib.hid (HS.out.trans hs3)
      have HT3 := Lib.hid hT3
      have HR3 := Lib.hid (HRK.out.free (fun e => HJ.out e.symm) hs3)
      clear hs3 hT3 HDR
      go_wp2_with fail
      go_roundw
      case rel =>
        refine ⟨k + 1, o3, by go_num, by omega, HS3.out, ?_, HR3.out⟩
        rw [commitTo_step HIDK.out]
        exact HT3.out
      case measure => simp [intOf]; omega
    · have hd : decide ((k : Int) < (tl : Int)) = false := by simp; omega
      obtain rfl : tl = k := by omega
      go_wp2_with fail
      go_ret
      have h9 := HTK.out
      rw [HTL.out, commitTo_end] at h9
      refine ⟨q, o2, rfl, HS.out, h9, ?_⟩
      exact HS.out.keep.to_below (Nat.le_refl _) fun x _ hx => HF.out x hx
/-- .. that is never turned. -/
theorem committed_any (h : TreeO o i w p T) (hM : Marks W o w) (hT : OkM T) :
    Calls Tryz.prog 51 #[ptr p] w fun e w' => ∃ q, e = .returned (ptr q) ∧ TreeO o 0 w' q (commitM T) ∧ Below w.heap.size w w' := by
  obtain ⟨j, hj, hf⟩ := fresh_mark hM
  refine (committed_own h hM hT j hj hf).mono ?_
  rintro e w' ⟨q, o', rfl, hs, hT', hb⟩
  refine ⟨q, rfl, hT'.remark (fun b hb' he => ?_) (fun b hb' he => ?_), hb⟩
  · by_cases hlt : b < w.heap.size
    · rw [hs.old b hlt] at he; exact absurd he (hf b)
    · exact Decidable.byContradiction fun h0 => by have := (hM.new b h0).2; omega
  · by_cases hlt : b < w.heap.size
    · rw [hs.old b hlt] at he; exact he
    · exact Decidable.byContradiction fun h0 => by have := (hM.new b h0).2; omega
end
end Go.Proofs.YtmabllemjkcobaaGreatDoor
namespace Go.Proofs.YtmabllemjkcobaaGreatDoor
open Go.ChangeShapes Go.WideShapes Go.ChangeAt Go.RowKit
set_option linter.unusedVariables false
set_option linter.unusedSimpArgs false

section
variable {W w : World} {o : Mark} {i s : Nat} {S : SnM}
theorem SnapsO.grow (h : SnapsO o i w s S) {w' : World} (hM : Marks W o w) (hb : Below w.heap.size w w') : SnapsO o i w' s S :=
  h.step (I := fun _ => False) (fun h => h) (fun h => h) (Step.grow hM hb)
theorem SnapsO.lt (h : SnapsO o i w s S) : s < w.heap.size := by
  obtain ⟨v, la, lc, vals, h1, h2, h3, h4, h5, h6, h7, h8⟩ := h.at_
  exact h3
/-- A new block bears the mark. -/
theorem new_snaps (hM : Marks W o w) (j : Nat) (hj : j ≠ 0) : Calls Tryz.prog 33 #[] w fun e w' => ∃ s o', e = .returned (ptr s) ∧ Step o (fun k => k = j) w o' w' ∧ SnapsO o' j w' s newSn ∧ Below w.heap.size w w' := by
  have HM := Lib.hid hM
  clear hM
  go_enter Tryz.func33, Tryz.ntmps33
  go_wp2
  go_ret
  obtain ⟨o', hs, h1, h2⟩ := mark_new HM.out j (fun b => b = w.heap.size) (w' := w.alloc (.cells #[.slice none 0 0, .int .i64 1, .slice none 0 0] 101)) (fun b hb => by subst hb; simp) (wall w _)
  refine ⟨w.heap.size, o', rfl, hs, ⟨.slice none 0 0, none, 0, [], (MapKept.heap_alloc w _).1, h1 _ rfl, by simp, ⟨rfl, .inl ⟨rfl, rfl⟩⟩, fun b hb => by simp [Value.ownBlock] at hb, rfl, Nat.le_refl _, RowAt.nil _ _ _⟩, wall w _⟩
/-- The place of an ID. -/
def FindR (l : List OneM) (id v : Int) : Prop :=
  (v = -1 ∧ ∀ x ∈ l, x.id ≠ id) ∨ ∃ (k : Nat) (x : OneM), v = k ∧ l[k]? = some x ∧ x.id = id ∧ ∀ x' ∈ l.take k, x'.id ≠ id
theorem find1_any (z : Int) (hv qv : Value) (id : Int) (vb : Nat) (w : World) (hc : w.cell? ⟨vb, 0, none⟩ = some (.int .i64 id)) (hvb : vb < w.heap.size) : Calls Tryz.prog 180 #[.agg #[.int .i64 z, hv, qv], ptr vb] w fun e w' => e = .returned (.bool (z == id)) ∧ Below w.heap.size w w' := by
  have hc2 : (w.alloc (.cells #[.int .i64 z, hv, qv] 105)).cell? ⟨vb, 0, none⟩ = some (.int .i64 id) := ((wall w _).cell (p := ⟨vb, 0, none⟩) hvb).trans hc
  go_enter Tryz.func180, Tryz.ntmps180
  go_wp2
  go_ret
  exact ⟨rfl, wall w _⟩
theorem index_any {a : Option Addr} {n c : Nat} {vals : List Value} {l : List OneM} (id : Int) (vb : Nat) (hl : l.length = n) (hr : RowAt (fun b => b < w.heap.size) w a (n * 3) vals) (hO : OnesAt o w vals l) (hn : n ≤ 1000) (hc : w.cell? ⟨vb, 0, none⟩ = some (.int .i64 id)) (hvb : vb < w.heap.size) :
    Calls Tryz.prog 179 #[.slice a n c, .func (.func 180) #[] #[ptr vb]] w fun e w' => ∃ v, e = .returned (.int .i64 v) ∧ FindR l id v ∧ Below w.heap.size w w' := by
  have HR := Lib.hid hr
  have HO := Lib.hid hO
  have HL := Lib.hid hl
  clear hr hO hl
  go_enter Tryz.func179, Tryz.ntmps179
  go_wp2
  go_loopw [5, 8] (fun _ iv wr => ∃ k : Nat, k ≤ n ∧ iv = .int .i64 k ∧ (∀ x ∈ l.take k, x.id ≠ id) ∧ Below w.heap.size w wr) (fun _ iv _ => n - (intOf iv).toNat)
  case atStart => exact ⟨0, by omega, rfl, by simp, Below.refl _ _⟩
  case round =>
    obtain ⟨k, hk, rfl, hno, hb⟩ := hrel
    have HNO := Lib.hid hno
    have HB := Lib.hid hb
    clear hno
    by_cases hlt : k < n
    · obtain ⟨g, off, rfl, hgw, _, hcell⟩ := HR.out.at_ (by omega)
      obtain ⟨x, hx⟩ : ∃ x, l[k]? = some x := ⟨l[k]'(by rw [HL.out]; exact hlt), List.getElem?_eq_getElem _⟩
      obtain ⟨ha, hcp, q, e0, e1, e2, _⟩ := HO.out.at_ hx
      have d0 : wr.cell? ⟨g, off + k * 3, none⟩ = some (.int .i64 x.id) := (hb.cell (p := ⟨g, off + k * 3, none⟩) hgw).trans ((hcell (k * 3) (by omega)).trans e0)
      have d1 : wr.cell? ⟨g, off + k * 3 + 1, none⟩ = some (.slice ha x.hash.length hcp) := (hb.cell (p := ⟨g, off + k * 3 + 1, none⟩) hgw).trans ((hcell (k * 3 + 1) (by omega)).trans e1)
      have d2 : wr.cell? ⟨g, off + k * 3 + 2, none⟩ = some (ptr q) := (hb.cell (p := ⟨g, off + k * 3 + 2, none⟩) hgw).trans ((hcell (k * 3 + 2) (by omega)).trans e2)
      have HX := Lib.hid hx
      have hcv := (hb.cell (p := ⟨vb, 0, none⟩) hvb).trans hc
      have HF := Lib.hid (find1_any x.id (.slice ha x.hash.length hcp) (ptr q) id vb wr hcv (by have := hb.size; omega))
      have i0 : (0 : Int) ≤ (k : Int) := by omega
      have i1 : (k : Int) < (n : Int) := by omega
      have hd : decide ((k : Int) < (n : Int)) = true := by simpa using i1
      clear hx hcell e0 e1 e2 hcv hb
      by_cases he : x.id = id
      · have he2 : (x.id == id) = true := by simpa using he
        rw [he2] at HF
        have HE := Lib.hid he
        clear he he2
        go_wp2_with fail
        (with_reducible refine HF.out.mono ?_)
        rintro e w1 ⟨rfl, hb1⟩
        go_wp2_with fail
        go_ret
        exact ⟨k, rfl, .inr ⟨k, x, rfl, HX.out, HE.out, HNO.out⟩, HB.out.trans (hb1.mono HB.out.size)⟩
      · have he2 : (x.id == id) = false := by simpa using he
        rw [he2] at HF
        have HE := Lib.hid he
        clear he he2
        go_wp2_with fail
        (with_reducible refine HF.out.mono ?_)
        rintro e w1 ⟨rfl, hb1⟩
        go_wp2_with fail
        go_roundw
        case rel =>
          refine ⟨k + 1, by omega, by go_num, fun y hy => ?_, HB.out.trans (hb1.mono HB.out.size)⟩
          obtain ⟨hkl, ek⟩ := List.getElem?_eq_some_iff.1 HX.out
          rw [List.take_succ_eq_append_getElem hkl, ek] at hy
          rcases List.mem_append.1 hy with hy | hy
          · exact HNO.out y hy
          · simp only [List.mem_singleton] at hy
            rw [hy]; exact HE.out
        case measure => simp [intOf]; omega
    · have hd : decide ((k : Int) < (n : Int)) = false := by simp; omega
      go_wp2_with fail
      go_ret
      refine ⟨-1, rfl, .inl ⟨rfl, fun x hx => HNO.out x ?_⟩, HB.out⟩
      rw [List.take_of_length_le (by have := HL.out; omega)]
      exact hx
theorem find_any (h : SnapsO o i w s S) (id : Int) (hn : S.l.length ≤ 1000) : Calls Tryz.prog 113 #[ptr s, .int .i64 id] w fun e w' => ∃ v, e = .returned (.int .i64 v) ∧ FindR S.l id v ∧ Below w.heap.size w w' := by
  obtain ⟨v, la, lc, vals, h1, h2, h3, h4, h5, h6, h7, h8⟩ := h.at_
  obtain ⟨a, c, rfl, hcap⟩ := own_form h4
  obtain ⟨-, -, hrow⟩ := RowAt.of_rown h4 (by unfold maxLen; omega)
  have c0 : w.cell? ⟨s, 0, none⟩ = some (.slice a S.l.length c) := by simp [World.cell?, h1]
  obtain ⟨n, hnl⟩ : ∃ n, n = S.l.length := ⟨_, rfl⟩
  rw [← hnl] at c0 hrow hcap hn
  have hca := (wall w (.cells #[.int .i64 id] 3))
  have c1 := (hca.cell (p := ⟨s, 0, none⟩) h3).trans c0
  have HI := Lib.hid (index_any (w := w.alloc (.cells #[.int .i64 id] 3)) (a := a) (n := n) (c := c) id w.heap.size hnl.symm ((hrow.below hca (Nat.le_refl _)).mono fun b hb => by simp; omega) (show OnesAt o _ vals S.l from OnesAt.grow hca h6) hn slice_cell (by simp))
  clear h h1 h2 h4 h5 h6 h7 h8 hrow hca c0 hnl
  go_enter Tryz.func113, Tryz.ntmps113
  go_wp2_with fail
  (with_reducible refine HI.out.mono ?_)
  rintro e w1 ⟨v, rfl, hf, hb1⟩
  have HF := Lib.hid hf
  have HB := Lib.hid hb1
  clear hf hb1
  go_wp2_with fail
  go_ret
  exact ⟨v, rfl, HF.out, (wall w _).trans (HB.out.mono (by simp))⟩
end
end Go.Proofs.YtmabllemjkcobaaGreatDoor
