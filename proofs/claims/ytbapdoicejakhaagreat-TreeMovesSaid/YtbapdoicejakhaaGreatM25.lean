/- DERIVED: THE SHELF's CONTRACTS AT THIS DUMP, IN PLAIN WORDS (tools/lay-plain.mjs out of 'YtbapdoicejakhaaGreatLaypKeysLayS.lean', which tools/lay-shelf.mjs wrote): THE SAME DECLARATIONS UNDER THE SAME NAMES: 'import', 'namespace', 'open', 'def', 'theorem' AND NOTHING ELSE: no command of the shelf's: FOR A HAND-IN. Each laying: the table of numbers ('.._ren') and one theorem, a field a fact of the dump's own or the kernel's comparison; each contract: ONE APPLICATION. slices.Sorted(maps.Keys(m)) of a directory's names, rising. tree: List. A law's own tree: Look, Unlink, Rmdir, Rename, Drop, List. (*tree.Tree).Names. permafrostlaw11.sound. -/
import Derived.Test.YtbapdoicejakhaaGreatProg
import Derived.Shelf.SlIter.Nil
import Derived.Shelf.SlIter.Sorted
import Derived.Shelf.SortM.Plain
import Derived.Shelf.SortM.SortNone
import Derived.Ground.GgzProg
import Derived.Ground.SlgmProg
import Derived.Test.YtbapdoicejakhaaGreatM02
import Derived.Test.YtbapdoicejakhaaGreatM24
import Derived.Test.YtbapdoicejakhaaGreatM23
import Derived.Test.YtbapdoicejakhaaGreatM21
import Derived.Test.YtbapdoicejakhaaGreatM22
import Derived.Test.YtbapdoicejakhaaGreatM19
namespace Go.Proofs
open Go.Shelf
def Tryz.keysS_ren : Go.Shelf.Ren := ⟨fun | 7 => 86 | 10 => 121 | n => n, fun | 23 => 89 | 26 => 9 | 3 => 3 | 28 => 127 | 0 => 0 | 27 => 126 | 33 => 144 | 4 => 4 | n => n, fun | n => n⟩
theorem Tryz.keysS : Go.Proofs.SlLaysZ.n7 Tryz.prog Tryz.keysS_ren := {
  mixed := by kernel_rfl
  f7 := ⟨Tryz.f86.name, by decide, Tryz.func86.trans (congrArg some (by kernel_rfl))⟩
  f10 := ⟨Tryz.f121.name, by decide, Tryz.func121.trans (congrArg some (by kernel_rfl))⟩
  t0 := Tryz.underlying0
  a0 := Tryz.isAgg0
  z0 := Tryz.sizeOf0
  v0 := Tryz.zeroValue0
  t4 := Tryz.underlying4
  a4 := Tryz.isAgg4
  z4 := Tryz.sizeOf4
  v4 := Tryz.zeroValue4
  t23 := Tryz.underlying89
  a23 := Tryz.isAgg89
  z23 := Tryz.sizeOf89
  v23 := Tryz.zeroValue89
  t26 := Tryz.underlying9
  a26 := Tryz.isAgg9
  z26 := Tryz.sizeOf9
  v26 := Tryz.zeroValue9
  t27 := Tryz.underlying126
  a27 := Tryz.isAgg126
  z27 := Tryz.sizeOf126
  v27 := Tryz.zeroValue126
  t28 := Tryz.underlying127
  a28 := Tryz.isAgg127
  z28 := Tryz.sizeOf127
  v28 := Tryz.zeroValue127
  t33 := Tryz.underlying144
  a33 := Tryz.isAgg144
  z33 := Tryz.sizeOf144
  v33 := Tryz.zeroValue144 }
def Tryz.sortedS_ren : Go.Shelf.Ren := ⟨fun | 6 => 85 | 8 => 119 | 9 => 120 | 11 => 145 | 13 => 136 | 12 => 146 | 23 => 159 | 24 => 160 | 14 => 168 | 15 => 169 | 16 => 170 | 17 => 171 | 18 => 172 | 19 => 173 | 20 => 174 | 21 => 175 | 22 => 176 | 25 => 193 | 26 => 178 | 27 => 179 | 28 => 194 | 29 => 195 | 30 => 196 | 31 => 204 | n => n, fun | 26 => 9 | 28 => 127 | 24 => 36 | 0 => 0 | 3 => 3 | 37 => 157 | 48 => 187 | 50 => 27 | 4 => 4 | 40 => 181 | 39 => 180 | 45 => 95 | 5 => 5 | 9 => 9 | 51 => 206 | 55 => 209 | 57 => 220 | 58 => 44 | 33 => 144 | n => n, fun | n => n⟩
theorem Tryz.sortedS : Go.Proofs.SlLaysZ.n6 Tryz.prog Tryz.sortedS_ren := {
  mixed := by kernel_rfl
  f6 := ⟨Tryz.f85.name, by decide, Tryz.func85.trans (congrArg some (by kernel_rfl))⟩
  f8 := ⟨Tryz.f119.name, by decide, Tryz.func119.trans (congrArg some (by kernel_rfl))⟩
  f11 := ⟨Tryz.f145.name, by decide, Tryz.func145.trans (congrArg some (by kernel_rfl))⟩
  t0 := Tryz.underlying0
  a0 := Tryz.isAgg0
  z0 := Tryz.sizeOf0
  v0 := Tryz.zeroValue0
  t24 := Tryz.underlying36
  a24 := Tryz.isAgg36
  z24 := Tryz.sizeOf36
  v24 := Tryz.zeroValue36
  t26 := Tryz.underlying9
  a26 := Tryz.isAgg9
  z26 := Tryz.sizeOf9
  v26 := Tryz.zeroValue9
  t28 := Tryz.underlying127
  a28 := Tryz.isAgg127
  z28 := Tryz.sizeOf127
  v28 := Tryz.zeroValue127
  i26 := by kernel_rfl }
def Tryz.sortS_ren : Go.Shelf.Ren := ⟨fun | 6 => 120 | 8 => 136 | 9 => 146 | 19 => 159 | 20 => 160 | 21 => 168 | 22 => 169 | 23 => 170 | 24 => 171 | 25 => 172 | 26 => 173 | 27 => 174 | 28 => 175 | 29 => 176 | 36 => 193 | 31 => 178 | 32 => 179 | 37 => 194 | 38 => 195 | 39 => 196 | 41 => 204 | n => n, fun | 27 => 36 | 29 => 9 | 3 => 3 | 32 => 157 | 26 => 36 | 0 => 0 | 44 => 187 | 46 => 27 | 4 => 4 | 36 => 181 | 35 => 180 | 41 => 95 | 5 => 5 | 9 => 9 | 53 => 206 | 57 => 209 | 63 => 220 | 64 => 44 | n => n, fun | n => n⟩
theorem Tryz.sortS : Go.Proofs.SlLaysM.n6 Tryz.prog Tryz.sortS_ren := {
  mixed := by kernel_rfl
  f6 := ⟨Tryz.f120.name, by decide, Tryz.func120.trans (congrArg some (by kernel_rfl))⟩
  f8 := Tryz.func136.trans (congrArg some (by kernel_rfl))
  f9 := ⟨Tryz.f146.name, by decide, Tryz.func146.trans (congrArg some (by kernel_rfl))⟩
  f19 := Tryz.func159.trans (congrArg some (by kernel_rfl))
  f20 := Tryz.func160.trans (congrArg some (by kernel_rfl))
  f21 := ⟨Tryz.f168.name, by decide, Tryz.func168.trans (congrArg some (by kernel_rfl))⟩
  f22 := ⟨Tryz.f169.name, by decide, Tryz.func169.trans (congrArg some (by kernel_rfl))⟩
  f23 := ⟨Tryz.f170.name, by decide, Tryz.func170.trans (congrArg some (by kernel_rfl))⟩
  f24 := ⟨Tryz.f171.name, by decide, Tryz.func171.trans (congrArg some (by kernel_rfl))⟩
  f25 := ⟨Tryz.f172.name, by decide, Tryz.func172.trans (congrArg some (by kernel_rfl))⟩
  f26 := ⟨Tryz.f173.name, by decide, Tryz.func173.trans (congrArg some (by kernel_rfl))⟩
  f27 := ⟨Tryz.f174.name, by decide, Tryz.func174.trans (congrArg some (by kernel_rfl))⟩
  f28 := ⟨Tryz.f175.name, by decide, Tryz.func175.trans (congrArg some (by kernel_rfl))⟩
  f29 := ⟨Tryz.f176.name, by decide, Tryz.func176.trans (congrArg some (by kernel_rfl))⟩
  f31 := Tryz.func178.trans (congrArg some (by kernel_rfl))
  f32 := Tryz.func179.trans (congrArg some (by kernel_rfl))
  f36 := ⟨Tryz.f193.name, by decide, Tryz.func193.trans (congrArg some (by kernel_rfl))⟩
  f37 := ⟨Tryz.f194.name, by decide, Tryz.func194.trans (congrArg some (by kernel_rfl))⟩
  f38 := ⟨Tryz.f195.name, by decide, Tryz.func195.trans (congrArg some (by kernel_rfl))⟩
  f39 := ⟨Tryz.f196.name, by decide, Tryz.func196.trans (congrArg some (by kernel_rfl))⟩
  f41 := ⟨Tryz.f204.name, by decide, Tryz.func204.trans (congrArg some (by kernel_rfl))⟩
  t0 := Tryz.underlying0
  a0 := Tryz.isAgg0
  z0 := Tryz.sizeOf0
  v0 := Tryz.zeroValue0
  t3 := Tryz.underlying3
  a3 := Tryz.isAgg3
  z3 := Tryz.sizeOf3
  v3 := Tryz.zeroValue3
  t4 := Tryz.underlying4
  a4 := Tryz.isAgg4
  z4 := Tryz.sizeOf4
  v4 := Tryz.zeroValue4
  t5 := Tryz.underlying5
  a5 := Tryz.isAgg5
  z5 := Tryz.sizeOf5
  v5 := Tryz.zeroValue5
  t9 := Tryz.underlying9
  a9 := Tryz.isAgg9
  z9 := Tryz.sizeOf9
  v9 := Tryz.zeroValue9
  t26 := Tryz.underlying36
  a26 := Tryz.isAgg36
  z26 := Tryz.sizeOf36
  v26 := Tryz.zeroValue36
  t27 := Tryz.underlying36
  a27 := Tryz.isAgg36
  z27 := Tryz.sizeOf36
  v27 := Tryz.zeroValue36
  t29 := Tryz.underlying9
  a29 := Tryz.isAgg9
  z29 := Tryz.sizeOf9
  v29 := Tryz.zeroValue9
  t32 := Tryz.underlying157
  a32 := Tryz.isAgg157
  z32 := Tryz.sizeOf157
  v32 := Tryz.zeroValue157
  t35 := Tryz.underlying180
  a35 := Tryz.isAgg180
  z35 := Tryz.sizeOf180
  v35 := Tryz.zeroValue180
  t36 := Tryz.underlying181
  a36 := Tryz.isAgg181
  z36 := Tryz.sizeOf181
  v36 := Tryz.zeroValue181
  t41 := Tryz.underlying95
  a41 := Tryz.isAgg95
  z41 := Tryz.sizeOf95
  v41 := Tryz.zeroValue95
  t44 := Tryz.underlying187
  a44 := Tryz.isAgg187
  z44 := Tryz.sizeOf187
  v44 := Tryz.zeroValue187
  t46 := Tryz.underlying27
  a46 := Tryz.isAgg27
  z46 := Tryz.sizeOf27
  v46 := Tryz.zeroValue27
  t53 := Tryz.underlying206
  a53 := Tryz.isAgg206
  z53 := Tryz.sizeOf206
  v53 := Tryz.zeroValue206
  t57 := Tryz.underlying209
  a57 := Tryz.isAgg209
  z57 := Tryz.sizeOf209
  v57 := Tryz.zeroValue209
  t63 := Tryz.underlying220
  a63 := Tryz.isAgg220
  z63 := Tryz.sizeOf220
  v63 := Tryz.zeroValue220
  t64 := Tryz.underlying44
  a64 := Tryz.isAgg44
  z64 := Tryz.sizeOf44
  v64 := Tryz.zeroValue44 }
end Go.Proofs
namespace Go.Proofs
open Go.RowKit Go.Maps Go.Sort Go.Shelf
theorem Tryz.sortsS (m : Nat) : AnyZ.SortsIn Tryz.prog Tryz.sortedS_ren Fence.wide m :=
  ⟨fun blk off cap ss W hH hblk hsz => callsIn_wide.2 (AnyM.slices_Sort_string Tryz.sortS blk off cap ss W hH hblk hsz),
   fun p cap W => callsIn_wide.2 (AnyM.slices_Sort_string_none Tryz.sortS p cap W)⟩
theorem Tryz.keysOfS (mb : Option Nat) (W : World) : Calls Tryz.prog 86 #[.map mb] W fun e w' => e = .returned (.func (.func 121) #[] #[.pointer (some ⟨W.heap.size, 0, none⟩)]) ∧ w' = W.alloc (.cells #[.map mb] 89) :=
  callsIn_wide.1 (AnyZ.keys_in Tryz.keysS Fence.wide 5 trivial rfl mb W)
set_option maxHeartbeats 1000000 in
theorem Tryz.sortedOfS {H : Type} (b nn : Nat) (D0 : DataW H) (R : Value → Option (DataW H × List MemPlace)) (w : World) (hown : w.ownsMap Tryz.prog 9 R b nn D0) (hmax : Maps.size D0 ≤ maxLen) (hbytes : Maps.size D0 * 16 ≤ 140737488355328) :
    Calls Tryz.prog 85 #[.func (.func 121) #[] #[.pointer (some ⟨w.heap.size, 0, none⟩)]] (w.alloc (.cells #[.map (some b)] 89)) fun e w' => ∃ (v : Value) (ss : List (List UInt8)), e = .returned v ∧ ss.Perm (strKeys D0) ∧
      w'.ownsRow (w.alloc (.cells #[.map (some b)] 89)).heap.size 9 1 v ss.length ((ss.mergeSort (fun x y => decide (x ≤ y))).map encStr) ∧ (v = .slice none 0 0 ↔ ss = []) ∧ Below (w.alloc (.cells #[.map (some b)] 89)).heap.size (w.alloc (.cells #[.map (some b)] 89)) w' := by
  have hbl := hown.lt
  have hseq : SeqGives Fence.wide 2 Tryz.prog 121 #[.pointer (some ⟨w.heap.size, 0, none⟩)] encStr (fun ss => ss.Perm (strKeys D0)) (Maps.size D0) (w.alloc (.cells #[.map (some b)] 89)) :=
    AnyZ.keys_gives (ρ := Tryz.keysS_ren) { Tryz.keysS with } Fence.wide _ trivial rfl (by omega) w.heap.size b nn D0 _ (by simp) (by simp) (by
      obtain ⟨es, clock, hb, Ft, hs, hD⟩ := hown
      exact ⟨es, clock, (Below.heap_alloc _ _ b hbl).trans hb, Ft, hs, hD⟩)
  exact callsIn_wide.1 (AnyZ.sorted_in Tryz.sortedS Fence.wide 5 trivial trivial trivial trivial rfl (by omega) (Tryz.sortsS _) (enters_of Tryz.func120 (by kernel_rfl) rfl) 121 #[.pointer (some ⟨w.heap.size, 0, none⟩)] trivial (enters_of Tryz.func121 (by kernel_rfl) rfl) _ _ hmax hbytes _ hseq)
end Go.Proofs
namespace Go.Proofs.YtbapdoicejakhaaGreat
open Go.ChangeShapes Go.WideShapes Go.ChangeAt Go.RowKit
set_option linter.unusedVariables false
set_option linter.unusedSimpArgs false

theorem strKeys_toD (l : List (Nm × Value)) : strKeys (toD strK l) = l.map (·.1) := by
  unfold strKeys toD
  simp only [List.map_map]
  rfl
theorem bb_lt : ∀ {a b : List UInt8}, bytesBefore a b = true → a < b
  | [], [], h => by cases h
  | [], _ :: _, _ => List.nil_lt_cons _ _
  | _ :: _, [], h => by cases h
  | x :: r, y :: s, h => by
    rw [List.cons_lt_cons_iff]
    simp only [bytesBefore, Bool.or_eq_true, Bool.and_eq_true, decide_eq_true_eq, beq_iff_eq] at h
    rcases h with h | ⟨h1, h2⟩
    · exact .inl h
    · exact .inr ⟨h1, bb_lt h2⟩
theorem sorted_names {α : Type} {l : List (Nm × α)} (hl : ASorted bytesBefore l) {ss : List Nm} (hp : ss.Perm (l.map (·.1))) : ss.mergeSort (fun x y => decide (x ≤ y)) = l.map (·.1) := by
  have h1 : (ss.mergeSort (fun x y => decide (x ≤ y))).Pairwise (fun a b => decide (a ≤ b) = true) := List.pairwise_mergeSort (fun a b c h1 h2 => by simp only [decide_eq_true_eq] at *; exact List.le_trans h1 h2) (fun a b => by simp only [Bool.or_eq_true, decide_eq_true_eq]; exact List.le_total a b) ss
  have h2 : (l.map (·.1)).Pairwise (fun a b => decide (a ≤ b) = true) := by
    rw [List.pairwise_map]
    exact hl.imp fun {a b} h => by simp only [decide_eq_true_eq]; exact List.le_of_lt (bb_lt h)
  exact ((List.mergeSort_perm ss _).trans hp).eq_of_pairwise (fun a b _ _ h1 h2 => by simp only [decide_eq_true_eq] at h1 h2; exact List.le_antisymm h1 h2) h1 h2
/-- A directory's names. -/
def listM (T : TrM) (id : Int) : List Nm × Int := match aget id T with
  | none => ([], 20)
  | some x => if x.kind = 2 then (x.names.map (·.1), 0) else ([], 23)
def NewList (w : World) (q : List Nm × Int) (e : Ending) (w' : World) : Prop :=
  ∃ a c, e = .returned (.tuple #[.slice a q.1.length c, .int .i64 q.2]) ∧ q.1.length ≤ c ∧ StrsAt (fun x => w.heap.size ≤ x ∧ x < w'.heap.size) w' a q.1.length (q.1.map strOf) ∧ Below w.heap.size w w'
section
variable {g : Nat → Own} {D : Nat → Prop} {p mb : Nat} {ib nb : Int → Nat} {T : TrM}
set_option maxRecDepth 100000 in
set_option maxHeartbeats 2000000 in
theorem list_at (id : Int) (w : World) (h : TreeAt g D w p mb ib nb T) (hT : OkM T) (hid : (Lit.int .i64 id).wf = true) : Calls Tryz.prog 49 #[ptr p, .int .i64 id] w (NewList w (listM T id)) := by
  obtain ⟨hc0, hpw, hmw⟩ := h.cell
  have hok : intK.ok id := hid
  have HMAP := Lib.hid h.map
  have HT := Lib.hid hT
  cases hx : aget id T with
  | none =>
    have HG : Hid (aget id (T.map fun q => (q.1, ptr (ib q.1))) = none) := by rw [aget_ptr, hx]; rfl
    have HL : Hid (listM T id = ([], 20)) := by unfold listM; rw [hx]; exact rfl
    clear hx h hT hid
    go_enter Tryz.func49, Tryz.ntmps49
    go_wp2_with (first | (at_lookup; refine wpList_look_ok intK rfl _ _ 86 84 rfl Tryz.underlying86 (Tryz.zeroItem _) rfl HMAP.out id rfl hok ?_; rw [HG.out]))
    go_ret2
    rw [HL.out]
    exact ⟨none, 0, rfl, Nat.le_refl _, ⟨RowAt.nil _ _ _, by simp⟩, Below.refl _ _⟩
  | some x =>
    have HG : Hid (aget id (T.map fun q => (q.1, ptr (ib q.1))) = some (ptr (ib id))) := by rw [aget_ptr, hx]; rfl
    obtain ⟨c0, c1, c2, c3, c4, c5, c7, hiw⟩ := (h.item id x hx).cell
    have O1 := Lib.hid (hT.each id x hx)
    have hfew := hT.few hx
    by_cases hk : x.kind = 2
    · have HL : Hid (listM T id = (x.names.map (·.1), 0)) := by unfold listM; rw [hx]; simp only [if_pos hk]; first | exact rfl | exact trivial
      have e2 : namesV x (nb id) = .map (some (nb id)) := if_pos hk
      rw [e2] at c7
      rw [hk] at c1
      have hM := (h.item id x hx).names hk
      have hsz : (nameL x).length = x.names.length := List.length_map _
      have hkk := Tryz.keysOfS (some (nb id)) w
      have hs := Tryz.sortedOfS (nb id) (nameL x).length (toD strK (nameL x)) rawE w hM (by rw [toD_size, hsz]; unfold maxLen; omega) (by rw [toD_size, hsz]; omega)
      clear hx h hT hid hk e2 hM hsz
      go_enter Tryz.func49, Tryz.ntmps49
      go_wp2_with (first | (at_lookup; refine wpList_look_ok intK rfl _ _ 86 84 rfl Tryz.underlying86 (Tryz.zeroItem _) rfl HMAP.out id rfl hok ?_; rw [HG.out]) | (go_at_call 86; refine hkk.mono ?_; rintro e w' ⟨rfl, rfl⟩) | (go_at_call 85; refine hs.mono ?_; rintro e w' ⟨v, ss, rfl, hp, hown, hnil, hB⟩))
      go_ret2
      rw [HL.out]
      rw [strKeys_toD] at hp
      have hml : (nameL x).map (·.1) = x.names.map (·.1) := by unfold nameL; rw [List.map_map]; rfl
      rw [hml] at hp
      rw [sorted_names O1.out.sorted hp] at hown
      have hlen : ss.length = (x.names.map (·.1)).length := hp.length_eq
      have hB2 : Below w.heap.size w w' := ((Below.refl _ _).alloc (Nat.le_refl _) _).trans (hB.mono (by simp))
      have hs1 := hB.size
      rw [World.size_alloc] at hs1
      have hgood : ∀ s ∈ (x.names.map (·.1)).map strOf, s.size ≤ maxLen := by
        intro s hs
        obtain ⟨l, hl, rfl⟩ := List.mem_map.1 hs
        obtain ⟨e, he, rfl⟩ := List.mem_map.1 hl
        have := good_len _ (O1.out.good e he)
        rw [strOf_size]; unfold maxLen; omega
      have hll : (x.names.map (·.1)).length ≤ 4096 := by rw [List.length_map]; exact hfew
      obtain ⟨h1, h2⟩ := hown
      simp only [List.length_map] at h1
      generalize x.names.map (·.1) = L at *
      rcases h2 with ⟨rfl, h0⟩ | ⟨g, cap, cur, rfl, hg, hcur, hc1, hc2, hcs, htk⟩
      · have : L = [] := List.eq_nil_of_length_eq_zero (by omega)
        subst this
        exact ⟨none, 0, rfl, Nat.le_refl _, ⟨RowAt.nil _ _ _, by simp⟩, hB2⟩
      · have hgw := (Array.getElem?_eq_some_iff.1 hcur).1
        rw [World.size_alloc] at hg
        refine ⟨some ⟨g, 0, none⟩, cap, by rw [← hlen]; rfl, by simp only; omega, ⟨⟨by simp, by simp only; unfold maxLen; omega, fun h0 => ⟨g, 0, rfl, ⟨by omega, hgw⟩, hgw, fun i hi => ?_⟩⟩, hgood⟩, hB2⟩
        simp only [World.cell?, hcur, Nat.zero_add]
        rw [List.map_map, show L.map (Value.string ∘ strOf) = L.map Go.Proofs.encStr from rfl]
        rw [← htk, List.getElem?_take, if_pos (show i < ss.length * 1 by rw [hlen]; simp only at hi; omega)]
        simp
    · have HL : Hid (listM T id = ([], 23)) := by unfold listM; rw [hx]; simp only [if_neg hk]; first | exact rfl | exact trivial
      have hkk : (x.kind == 2) = false := by simpa using hk
      have hkn : (x.kind != 2) = true := by simpa using hk
      clear hx h hT hid hk c7
      go_enter Tryz.func49, Tryz.ntmps49
      go_wp2_with (first | (at_lookup; refine wpList_look_ok intK rfl _ _ 86 84 rfl Tryz.underlying86 (Tryz.zeroItem _) rfl HMAP.out id rfl hok ?_; rw [HG.out]))
      go_ret2
      rw [HL.out]
      exact ⟨none, 0, rfl, Nat.le_refl _, ⟨RowAt.nil _ _ _, by simp⟩, Below.refl _ _⟩
end
end Go.Proofs.YtbapdoicejakhaaGreat
namespace Go.Proofs.YtbapdoicejakhaaGreat
open Go.ChangeShapes Go.WideShapes Go.ChangeAt Go.RowKit
set_option linter.unusedVariables false
set_option linter.unusedSimpArgs false
section
variable {W w : World} {P : Nat → Prop} {p : Nat} {T : TrM}
theorem in_look {S : Nat → Prop} (h : TreeIn W P w p T) (a : Option Addr) (n c : Nat) (ls : List Nm) (hS : StrsAt S w a n (ls.map strOf)) :
    Calls Tryz.prog 47 #[ptr p, .slice a n c] w fun e w' => e = .returned (.tuple #[.int .i64 (lookE T ls).1, .int .i64 (lookE T ls).2]) ∧ Below w.heap.size w w' := by
  obtain ⟨g, D, mb, ib, nb, hA, hF⟩ := h.at_
  exact Look_at a n c ls w hA h.ok hS
theorem in_unlink {S : Nat → Prop} (h : TreeIn W P w p T) (a : Option Addr) (n c : Nat) (ls : List Nm) (hS : StrsAt S w a n (ls.map strOf)) (hc : n ≤ c) (hn8 : n ≤ 1000000) :
    Calls Tryz.prog 26 #[ptr p, .slice a n c] w (InTurned W P w p (unlinkM T ls).2 (.int .i64 (unlinkM T ls).1)) := by
  obtain ⟨g, D, mb, ib, nb, hA, hF⟩ := h.at_
  exact (unlink_at a n c ls w hA h.ok hS hc hn8).mono fun e w' ht => TreeIn.of_turn hF h.below h.low ht (h.ok.unlinkM _)
theorem in_rmdir {S : Nat → Prop} (h : TreeIn W P w p T) (a : Option Addr) (n c : Nat) (ls : List Nm) (hS : StrsAt S w a n (ls.map strOf)) (hc : n ≤ c) (hn8 : n ≤ 1000000) :
    Calls Tryz.prog 18 #[ptr p, .slice a n c] w (InTurned W P w p (rmdirM T ls).2 (.int .i64 (rmdirM T ls).1)) := by
  obtain ⟨g, D, mb, ib, nb, hA, hF⟩ := h.at_
  exact (rmdir_at a n c ls w hA h.ok hS hc hn8).mono fun e w' ht => TreeIn.of_turn hF h.below h.low ht (h.ok.rmdirM _)
theorem in_rename {S S' : Nat → Prop} (h : TreeIn W P w p T) (hO : Okay T) (a : Option Addr) (n c : Nat) (ls : List Nm) (a' : Option Addr) (n' c' : Nat) (ls' : List Nm) (hS : StrsAt S w a n (ls.map strOf)) (hS' : StrsAt S' w a' n' (ls'.map strOf)) (hc : n ≤ c) (hn8 : n ≤ 1000000) (hc' : n' ≤ c') (hn8' : n' ≤ 1000000) :
    Calls Tryz.prog 51 #[ptr p, .slice a n c, .slice a' n' c'] w (InTurned W P w p (renameM T ls ls').2 (.int .i64 (renameM T ls ls').1)) := by
  obtain ⟨g, D, mb, ib, nb, hA, hF⟩ := h.at_
  exact (rename_at a n c ls a' n' c' ls' w hA hO hS hS' hc hn8 hc' hn8').mono fun e w' ht => TreeIn.of_turn hF h.below h.low ht (hO.renameM _ _).1
theorem in_drop (h : TreeIn W P w p T) (id : Int) (hid : (Lit.int .i64 id).wf = true) :
    Calls Tryz.prog 36 #[ptr p, .int .i64 id] w (InTurned W P w p (dropM T id).2 (.int .i64 (dropM T id).1)) := by
  obtain ⟨g, D, mb, ib, nb, hA, hF⟩ := h.at_
  exact (drop_at id h.ok w hA hid).mono fun e w' ht => TreeIn.of_turn hF h.below h.low ht (h.ok.dropM _)
theorem in_list (h : TreeIn W P w p T) (id : Int) (hid : (Lit.int .i64 id).wf = true) : Calls Tryz.prog 49 #[ptr p, .int .i64 id] w (NewList w (listM T id)) := by
  obtain ⟨g, D, mb, ib, nb, hA, hF⟩ := h.at_
  exact list_at id w hA h.ok hid
end
end Go.Proofs.YtbapdoicejakhaaGreat
namespace Go.Proofs.YtbapdoicejakhaaGreat
open Go.ChangeShapes Go.WideShapes Go.ChangeAt Go.RowKit
set_option linter.unusedVariables false
set_option linter.unusedSimpArgs false

/-- New paths, in some order. -/
def NewPaths (w : World) (L : List (List Nm)) (e : Ending) (w' : World) : Prop :=
  ∃ a c vals l, e = .returned (.slice a l.length c) ∧ l.length ≤ c ∧ l.Perm L ∧ PathVs (fun b => w.heap.size ≤ b ∧ b < w'.heap.size) w' vals l ∧ RowAt (fun b => w.heap.size ≤ b ∧ b < w'.heap.size) w' a l.length vals ∧ Below w.heap.size w w'
theorem allP_small {T : TrM} (hO : Okay T) {id : Int} {q : List Nm} (h : q ∈ allP T id) : Small q := by
  obtain ⟨h1, h2, _, _⟩ := look_fine hO ((mem_allP hO).1 h)
  exact ⟨by omega, fun n hn => goodL_len (h2 n hn)⟩
section
variable {W w : World} {P : Nat → Prop} {p : Nat} {T : TrM}
set_option maxHeartbeats 2000000 in
theorem in_names (h : TreeIn W P w p T) (hO : Okay T) (id : Int) : Calls Tryz.prog 48 #[ptr p, .int .i64 id] w (NewPaths w (allP T id)) := by
  obtain ⟨g, D, mb, ib, nb, hA, hF⟩ := h.at_
  have hO2 := hO
  obtain ⟨hT, dep, hd⟩ := hO2
  have hle := allP_le hO id
  have HN := Lib.hid (treeNames_any hT 8 w.heap.size id 0 [] w (.slice none 0 0) (.slice none 0 0) 0 [] hA (root_there hT) (hd.shal8 hT 0) (Nat.le_refl _) (fun b hb => hb.elim (hA.low b) (hA.dlow b)) ⟨rfl, .inl ⟨rfl, rfl⟩⟩ (pathV_nil _ _) (fun k hk => by simp at hk) (by simp) (by have h9 : (pathsM T id 8 0 []).length ≤ 64 := hle; omega))
  have HSM : Hid (∀ q ∈ allP T id, Small q) := fun q hq => allP_small hO hq
  obtain ⟨L, hL⟩ : ∃ L, L = allP T id := ⟨_, rfl⟩
  change Hid (NamesAt p w.heap.size w id 0 _ _ 0 [] (allP T id)) at HN
  rw [← hL] at HN HSM ⊢
  rw [← hL] at hle
  have HN2 : Hid (Calls Tryz.prog 97 #[ptr p, .int .i64 id, .int .i64 0, .slice none 0 0, .slice none 0 0] w fun e w' => ∃ v', e = .returned v' ∧ NamesRel w.heap.size w (.slice none 0 0) 0 [] L v' w') := HN.out
  clear hL hA hF hT hd h hO HN
  go_enter Tryz.func48, Tryz.ntmps48
  go_wp2_with fail
  (with_reducible refine HN2.out.mono ?_)
  rintro e w1 ⟨v1, rfl, vals, l, hp, ho, hv, hK, hb⟩
  have hB1 : Below w.heap.size w w1 := hK.to_below (Nat.le_refl _) fun x _ hx => by cases hx
  have hs1 := hB1.size
  rw [Nat.zero_add, List.nil_append] at ho
  have hlen : l.length ≤ 64 := by rw [hp.length_eq]; exact hle
  have hsm : ∀ q ∈ l, Small q := fun q hq => HSM.out q (hp.mem_iff.1 hq)
  have hform := ho.2
  rcases hform with ⟨hv0, hn0⟩ | ⟨gb, cap, cur, hv0, hg, _, hcap, _, _⟩
  · subst hv0
    have HV := Lib.hid hv
    have HP := Lib.hid hp
    have HO := Lib.hid ho
    have HB1 := Lib.hid hB1
    obtain ⟨hvl, hvv⟩ := hv
    obtain rfl : l = [] := List.eq_nil_of_length_eq_zero hn0
    obtain rfl : vals = [] := List.eq_nil_of_length_eq_zero hvl
    clear ho hp hB1 hvl hvv hb hsm hK HN2
    go_wp2_with fail
    (with_reducible refine (sort_none _ _).mono ?_)
    rintro e w2 ⟨rfl, rfl⟩
    go_wp2_with fail
    go_ret
    exact ⟨none, 0, [], [], rfl, Nat.le_refl _, HP.out, ⟨rfl, fun i q hq => by simp at hq⟩, RowAt.nil _ _ _, HB1.out⟩
  · subst hv0
    have HSN := Lib.hid (sort_names (S := fun b => w.heap.size ≤ b) w1 gb l.length cap vals l (by omega) ho (hv.move (Nat.le_refl _) fun b hb hbw => ⟨⟨fun he => hb.2.2 (by rw [he]; rfl), hb.1⟩, rfl⟩) hsm)
    have HV := Lib.hid hv
    have HP := Lib.hid hp
    have HB1 := Lib.hid hB1
    have hgw := own_lt ho gb rfl
    clear ho hp hB1 hb hsm hK HN2 hv
    obtain ⟨n, hn⟩ : ∃ n, n = l.length := ⟨_, rfl⟩
    have HNN := Lib.hid hn
    rw [← hn] at HSN hcap hlen ⊢
    clear hn
    go_wp2_with fail
    (with_reducible refine HSN.out.mono ?_)
    rintro e w2 ⟨rfl, vals', l', hp', hv', hr', hK'⟩
    have HV2 := Lib.hid hv'
    have HP2 := Lib.hid hp'
    have HR2 := Lib.hid hr'
    have HK2 := Lib.hid hK'
    clear hv' hp' hr' hK'
    go_wp2_with fail
    go_ret
    have hs2 := HK2.out.size
    have hln : l'.length = n := by rw [HNN.out]; exact HP2.out.length_eq
    refine ⟨some ⟨gb, 0, none⟩, cap, vals', l', by rw [hln]; rfl, by omega, HP2.out.trans HP.out, ?_, ?_, ?_⟩
    · exact HV2.out.move (Nat.le_refl _) fun b hb hbw => ⟨⟨hb.2.2, hbw⟩, rfl⟩
    · rw [hln]
      exact HR2.out.move (Nat.le_refl _) fun b hb hbw => ⟨⟨by rw [hb]; exact hg, hbw⟩, rfl⟩
    · exact HB1.out.trans (HK2.out.to_below HB1.out.size fun x hx he => by rw [he] at hx; omega)
end
end Go.Proofs.YtbapdoicejakhaaGreat
namespace Go.Proofs.YtbapdoicejakhaaGreat
open Go.ChangeShapes Go.WideShapes Go.ChangeAt Go.RowKit
set_option linter.unusedVariables false
set_option linter.unusedSimpArgs false

theorem sound_less {k : Nat} (h : k < 65536) : 65536 - (intOf (.int .i64 ((k : Int) + 1))).toNat < 65536 - (intOf (.int .i64 (k : Int))).toNat := by
  simp only [intOf]
  omega
theorem node_agg (T : TrM) (id : Int) : ∃ (v0 v1 v2 v3 v4 : Int) (v5 : Bool), nodeM T id = .agg #[.int .i64 v0, .int .i64 v1, .int .i64 v2, .int .i64 v3, .int .u64 v4, .bool v5] := by
  unfold nodeM
  cases aget id T with
  | none => exact ⟨_, _, _, _, _, _, rfl⟩
  | some y => exact ⟨_, _, _, _, _, _, rfl⟩
section
variable {W w : World} {P : Nat → Prop} {p : Nat} {T : TrM}
set_option maxRecDepth 100000 in
set_option maxHeartbeats 4000000 in
theorem sound_any (h : TreeIn W P w p T) (hO : Okay T) : Calls Tryz.prog 44 #[ptr p] w fun e w' => e = .returned (.bool true) ∧ Below w.heap.size w w' := by
  have HT := Lib.hid h
  have HO := Lib.hid hO
  have hlen := hO.1.len
  obtain ⟨N, hN⟩ : ∃ N, N = T.length := ⟨_, rfl⟩
  have HC : Hid (∀ w', Below w.heap.size w w' → Calls Tryz.prog 15 #[ptr p] w' fun e w'' => e = .returned (.int .i64 N) ∧ w' = w'') := fun w' hb => by rw [hN]; exact in_count (h.grow hb)
  have HNN := Lib.hid hN
  rw [← hN] at hlen
  clear h hO hN
  go_enter Tryz.func44, Tryz.ntmps44
  go_wp2_with fail
  go_loopw [3, 4] (fun nv iv wr => ∃ k : Nat, k ≤ 65536 ∧ iv = .int .i64 k ∧ nv = .int .i64 (below_ T k) ∧ Below w.heap.size w wr) (fun _ iv _ => 65536 - (intOf iv).toNat)
  case atStart => exact ⟨0, by omega, rfl, by rw [below_zero HO.out.1]; rfl, Below.refl _ _⟩
  case round =>
    obtain ⟨k, hk, rfl, rfl, hB⟩ := hrel
    have HB := Lib.hid hB
    have hBs := hB.size
    have hat := below_at HO.out.1 k
    have hle1 := below_le T (k + 1)
    have hle := below_le T k
    obtain ⟨m, hm⟩ : ∃ m, m = below_ T k := ⟨_, rfl⟩
    rw [← hm] at hat hle ⊢
    rw [← HNN.out] at hle hle1
    have HM := Lib.hid hm
    have HLE := Lib.hid hle
    have HLE1 := Lib.hid hle1
    clear hB hm hle1
    by_cases hlt : k < 65536
    · have hd1 : decide ((k : Int) < 65536) = true := by simp; omega
      have HCK := Lib.hid (HC.out _ HB.out)
      have hiw : (Lit.int .i64 (k : Int)).wf = true := by simp [Lit.wf, IntKind.min, IntKind.max, IntKind.signed, IntKind.bits]; omega
      by_cases hmn : m < N
      · have hd2 : decide ((m : Int) < (N : Int)) = true := by simpa using hmn
        have e2 : IntKind.i64.wrap ((k : Int) + 1) = (k : Int) + 1 := IntWalk.i64_in _ (by omega)
        have e1 : IntKind.i64.wrap ((m : Int) + 1) = (m : Int) + 1 := IntWalk.i64_in _ (by omega)
        have HND := Lib.hid (in_node (HT.out.grow HB.out) (k : Int) hiw)
        cases hx : aget (k : Int) T with
        | none =>
          obtain ⟨n0, n1, n2, n3, n4, n5, hnd⟩ := node_agg T (k : Int)
          rw [hnd, hx] at HND
          rw [hx] at hat
          simp only [Option.isSome_none, Bool.false_eq_true, if_false, Nat.add_zero] at HND hat
          have HAT := Lib.hid hat
          have HKL := Lib.hid hlt
          clear hx hnd hiw hat hlt hk
          go_wp2_with fail
          (with_reducible refine HCK.out.mono ?_)
          rintro e w2 ⟨rfl, rfl⟩
          go_wp2_with fail
          (with_reducible refine HND.out.mono ?_)
          rintro e w3 ⟨rfl, hb3⟩
          have HB3 := Lib.hid (HB.out.trans (hb3.mono hBs))
          clear hb3
          go_wp2_with fail
          go_roundw
          case rel => exact ⟨k + 1, HKL.out, rfl, by rw [HAT.out], HB3.out.trans ((wall w3 _).mono HB3.out.size)⟩
          case measure => exact sound_less HKL.out
        | some x =>
          have hln := allP_links HO.out hx
          have hmem : ∀ q ∈ allP T (k : Int), lookE T q = ((k : Int), 0) ∧ q.length ≤ 8 := fun q hq => by
            obtain ⟨h1, _, _, h2⟩ := look_fine HO.out ((mem_allP HO.out).1 hq)
            exact ⟨h2, h1⟩
          have HNA := Lib.hid (fun (w' : World) (hb : Below w.heap.size w w') => in_names (HT.out.grow hb) HO.out (k : Int))
          have hnode : nodeM T (k : Int) = nodeV (k : Int) x := by unfold nodeM; rw [hx]
          rw [hnode, hx] at HND
          unfold nodeV at HND
          rw [hx] at hat
          simp only [Option.isSome_some, if_true] at HND hat
          obtain ⟨AL, hal⟩ : ∃ AL, AL = allP T (k : Int) := ⟨_, rfl⟩
          rw [← hal] at hln hmem HNA
          obtain ⟨n, hn⟩ : ∃ n, n = AL.length := ⟨_, rfl⟩
          rw [← hn] at hln
          have hn64 : n ≤ 64 := by rw [hn, hal]; exact allP_le HO.out _
          rw [← hln] at HND
          have HAT := Lib.hid hat
          have HMEM := Lib.hid hmem
          have HNL := Lib.hid hn
          have HKL := Lib.hid hlt
          clear hx hnode hiw hat hal hln hmem hn hlt hk
          go_wp2_with fail
          (with_reducible refine HCK.out.mono ?_)
          rintro e w2 ⟨rfl, rfl⟩
          go_wp2_with fail
          (with_reducible refine HND.out.mono ?_)
          rintro e w3 ⟨rfl, hb3⟩
          have HB3 := Lib.hid (HB.out.trans (hb3.mono hBs))
          clear hb3
          go_wp2_with fail
          have hs3 := HB3.out.size
          have HB4 := Lib.hid (HB3.out.alloc hs3 (.cells #[.int .i64 (k : Int), .int .i64 x.kind, .int .i64 (n : Int), .int .i64 (x.b.length : Int), .int .u64 x.til, .bool x.closed] 29))
          (with_reducible refine (HNA.out _ HB4.out).mono ?_)
          rintro e w5 ⟨a5, c5, vals, l, rfl, hlc, hp, hv, hr, hb5⟩
          have hll : l.length = n := by rw [hp.length_eq, HNL.out]
          rw [hll] at hr hlc ⊢
          obtain ⟨w4, hw4⟩ : ∃ w4, w4 = w3.alloc (.cells #[.int .i64 (k : Int), .int .i64 x.kind, .int .i64 (n : Int), .int .i64 (x.b.length : Int), .int .u64 x.til, .bool x.closed] 29) := ⟨_, rfl⟩
          have hcell : ∀ j v, (#[.int .i64 (k : Int), .int .i64 x.kind, .int .i64 (n : Int), .int .i64 (x.b.length : Int), .int .u64 x.til, .bool x.closed] : Array Value)[j]? = some v → w5.cell? ⟨w3.heap.size, j, none⟩ = some v := fun j v hj => by
            rw [hb5.cell (p := ⟨w3.heap.size, j, none⟩) (by simp)]
            simp only [World.cell?, (MapKept.heap_alloc w3 _).1]
            simpa using hj
          have q0 : w5.cell? ⟨w3.heap.size, 0, none⟩ = some (.int .i64 (k : Int)) := hcell 0 _ rfl
          have q2 : w5.cell? ⟨w3.heap.size, 2, none⟩ = some (.int .i64 (n : Int)) := hcell 2 _ rfl
          have q5 : w5.cell? ⟨w3.heap.size, 5, none⟩ = some (.bool x.closed) := hcell 5 _ rfl
          rw [← hw4] at hb5 HB4 hv hr
          have hs4 : w3.heap.size < w4.heap.size := by rw [hw4]; simp
          have HB5 := Lib.hid (HB4.out.trans (hb5.mono (by omega)))
          have hs5 := hb5.size
          have HV := Lib.hid hv
          have HR := Lib.hid hr
          have HP := Lib.hid hp
          have HLL := Lib.hid hll
          clear hv hr hp hb5 hcell hw4 hll
          go_wp2_with fail
          go_loopw [8] (fun i wr2 => ∃ j : Nat, j ≤ n ∧ i = .int .i64 j ∧ Below w5.heap.size w5 wr2) (fun i _ => n - (intOf i).toNat)
          case atStart => exact ⟨0, by omega, rfl, Below.refl _ _⟩
          case round =>
            obtain ⟨j, hj, rfl, hBj⟩ := hrel
            have HBJ := Lib.hid hBj
            have hsj := hBj.size
            clear hBj
            by_cases hjn : j < n
            · have hd3 : decide ((j : Int) < (n : Int)) = true := by simpa using hjn
              obtain ⟨q, hq⟩ : ∃ q, l[j]? = some q := ⟨_, List.getElem?_eq_getElem (by have := HLL.out; omega)⟩
              obtain ⟨u, hu, a6, c6, rfl, hc6, hst⟩ := HV.out.2 j q hq
              obtain ⟨b5, off5, rfl, hbS, hb5w, hcc⟩ := HR.out.at_ (by omega)
              have z0 : wr.cell? ⟨b5, off5 + j, none⟩ = some (.slice a6 q.length c6) := by
                rw [HBJ.out.cell (p := ⟨b5, off5 + j, none⟩) hb5w, hcc j hjn, hu]
              have hqm := HMEM.out q (HP.out.mem_iff.1 (List.mem_iff_getElem?.2 ⟨j, hq⟩))
              have HLK := Lib.hid (in_look (HT.out.grow (HB5.out.trans (HBJ.out.mono HB5.out.size))) a6 q.length c6 q ⟨hst.row.move HBJ.out.size (fun b hb hbw => ⟨hb, HBJ.out.block b hbw⟩), hst.short⟩)
              rw [hqm.1] at HLK
              have hd8 : decide ((8 : Int) < (q.length : Int)) = false := by have := hqm.2; simp; omega
              clear hq hu hcc hqm hst
              go_wp2_with fail
              (with_reducible refine HLK.out.mono ?_)
              rintro e w7 ⟨rfl, hb7⟩
              have HB7 := Lib.hid (HBJ.out.trans (hb7.mono hsj))
              have z1 : w7.cell? ⟨b5, off5 + j, none⟩ = some (.slice a6 q.length c6) := (hb7.cell (p := ⟨b5, off5 + j, none⟩) (by simp only; omega)).trans z0
              clear hb7
              go_wp2_with fail
              go_roundw
              case rel => exact ⟨j + 1, by omega, by go_num, HB7.out⟩
              case measure => simp [intOf]; omega
            · go_wp2_with fail
              go_roundw
              case rel => exact ⟨k + 1, HKL.out, rfl, by rw [HAT.out]; rfl, HB5.out.trans (HBJ.out.mono HB5.out.size)⟩
              case measure => exact sound_less HKL.out
      · obtain rfl : m = N := by omega
        have hd2 : decide ((m : Int) < (m : Int)) = false := by simp
        clear hiw hat hlt hk hle hmn
        go_wp2_with fail
        (with_reducible refine HCK.out.mono ?_)
        rintro e w2 ⟨rfl, rfl⟩
        go_wp2_with fail
        (with_reducible refine HCK.out.mono ?_)
        rintro e w2 ⟨rfl, rfl⟩
        go_wp2_with fail
        go_ret
        exact ⟨by simp, HB.out⟩
    · have hd1 : decide ((k : Int) < 65536) = false := by simp; omega
      have HCK := Lib.hid (HC.out _ HB.out)
      obtain rfl : m = N := by
        have h1 := HM.out
        rw [show k = 65536 by omega, below_all HO.out.1, ← HNN.out] at h1
        exact h1
      clear hat hlt hk hle
      go_wp2_with fail
      (with_reducible refine HCK.out.mono ?_)
      rintro e w2 ⟨rfl, rfl⟩
      go_wp2_with fail
      go_ret
      exact ⟨by simp, HB.out⟩
end
end Go.Proofs.YtbapdoicejakhaaGreat
