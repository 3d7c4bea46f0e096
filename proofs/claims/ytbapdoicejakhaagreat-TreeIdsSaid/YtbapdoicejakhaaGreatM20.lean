/- DERIVED: THE SHELF's CONTRACTS AT THIS DUMP, IN PLAIN WORDS (tools/lay-plain.mjs out of 'YtbapdoicejakhaaGreatLaypKeysLayS.lean', which tools/lay-shelf.mjs wrote): THE SAME DECLARATIONS UNDER THE SAME NAMES: 'import', 'namespace', 'open', 'def', 'theorem' AND NOTHING ELSE: no command of the shelf's: FOR A HAND-IN. Each laying: the table of numbers ('.._ren') and one theorem, a field a fact of the dump's own or the kernel's comparison; each contract: ONE APPLICATION. slices.Sorted(maps.Keys(m)) of a directory's names, rising. tree: List. The reference's tree in memory; at, Node, entry. The reference: Node, entry. -/
import Derived.Test.YtbapdoicejakhaaGreatProg
import Derived.Shelf.SlIter.Nil
import Derived.Shelf.SlIter.Sorted
import Derived.Shelf.SortM.Plain
import Derived.Shelf.SortM.SortNone
import Derived.Ground.GgzProg
import Derived.Ground.SlgmProg
import Derived.Test.YtbapdoicejakhaaGreatM02
import Derived.Test.YtbapdoicejakhaaGreatM19
namespace Go.Proofs
open Go.Shelf
def Tryz.keysS_ren : Go.Shelf.Ren := ⟨fun | 7 => 86 | 10 => 121 | n => n, fun | 23 => 89 | 26 => 9 | 3 => 3 | 28 => 127 | 0 => 0 | 27 => 126 | 33 => 144 | 4 => 4 | n => n, fun | n => n⟩
theorem Tryz.keysS : Go.Proofs.SlLaysZ.n7 Tryz.prog Tryz.keysS_ren := {
  mixed := by kernel_rfl
  f7 := ⟨Tryz.f86.name, by decide, Tryz.func86.trans (congrArg some (by kernel_rfl))⟩
  f10 := ⟨Tryz.f121.name, by decide, Tryz.func121.trans (congrArg some (by kernel_rfl))⟩
  t0 := Tryz.underlying0
  a0 := Tryz.isAgg0
  z0 := Tryz.sizeOf0
  v0 := Tryz.zeroValue0
  t4 := Tryz.underlying4
  a4 := Tryz.isAgg4
  z4 := Tryz.sizeOf4
  v4 := Tryz.zeroValue4
  t23 := Tryz.underlying89
  a23 := Tryz.isAgg89
  z23 := Tryz.sizeOf89
  v23 := Tryz.zeroValue89
  t26 := Tryz.underlying9
  a26 := Tryz.isAgg9
  z26 := Tryz.sizeOf9
  v26 := Tryz.zeroValue9
  t27 := Tryz.underlying126
  a27 := Tryz.isAgg126
  z27 := Tryz.sizeOf126
  v27 := Tryz.zeroValue126
  t28 := Tryz.underlying127
  a28 := Tryz.isAgg127
  z28 := Tryz.sizeOf127
  v28 := Tryz.zeroValue127
  t33 := Tryz.underlying144
  a33 := Tryz.isAgg144
  z33 := Tryz.sizeOf144
  v33 := Tryz.zeroValue144 }
def Tryz.sortedS_ren : Go.Shelf.Ren := ⟨fun | 6 => 85 | 8 => 119 | 9 => 120 | 11 => 145 | 13 => 136 | 12 => 146 | 23 => 159 | 24 => 160 | 14 => 168 | 15 => 169 | 16 => 170 | 17 => 171 | 18 => 172 | 19 => 173 | 20 => 174 | 21 => 175 | 22 => 176 | 25 => 193 | 26 => 178 | 27 => 179 | 28 => 194 | 29 => 195 | 30 => 196 | 31 => 204 | n => n, fun | 26 => 9 | 28 => 127 | 24 => 36 | 0 => 0 | 3 => 3 | 37 => 157 | 48 => 187 | 50 => 27 | 4 => 4 | 40 => 181 | 39 => 180 | 45 => 95 | 5 => 5 | 9 => 9 | 51 => 206 | 55 => 209 | 57 => 220 | 58 => 44 | 33 => 144 | n => n, fun | n => n⟩
theorem Tryz.sortedS : Go.Proofs.SlLaysZ.n6 Tryz.prog Tryz.sortedS_ren := {
  mixed := by kernel_rfl
  f6 := ⟨Tryz.f85.name, by decide, Tryz.func85.trans (congrArg some (by kernel_rfl))⟩
  f8 := ⟨Tryz.f119.name, by decide, Tryz.func119.trans (congrArg some (by kernel_rfl))⟩
  f11 := ⟨Tryz.f145.name, by decide, Tryz.func145.trans (congrArg some (by kernel_rfl))⟩
  t0 := Tryz.underlying0
  a0 := Tryz.isAgg0
  z0 := Tryz.sizeOf0
  v0 := Tryz.zeroValue0
  t24 := Tryz.underlying36
  a24 := Tryz.isAgg36
  z24 := Tryz.sizeOf36
  v24 := Tryz.zeroValue36
  t26 := Tryz.underlying9
  a26 := Tryz.isAgg9
  z26 := Tryz.sizeOf9
  v26 := Tryz.zeroValue9
  t28 := Tryz.underlying127
  a28 := Tryz.isAgg127
  z28 := Tryz.sizeOf127
  v28 := Tryz.zeroValue127
  i26 := by kernel_rfl }
def Tryz.sortS_ren : Go.Shelf.Ren := ⟨fun | 6 => 120 | 8 => 136 | 9 => 146 | 19 => 159 | 20 => 160 | 21 => 168 | 22 => 169 | 23 => 170 | 24 => 171 | 25 => 172 | 26 => 173 | 27 => 174 | 28 => 175 | 29 => 176 | 36 => 193 | 31 => 178 | 32 => 179 | 37 => 194 | 38 => 195 | 39 => 196 | 41 => 204 | n => n, fun | 27 => 36 | 29 => 9 | 3 => 3 | 32 => 157 | 26 => 36 | 0 => 0 | 44 => 187 | 46 => 27 | 4 => 4 | 36 => 181 | 35 => 180 | 41 => 95 | 5 => 5 | 9 => 9 | 53 => 206 | 57 => 209 | 63 => 220 | 64 => 44 | n => n, fun | n => n⟩
theorem Tryz.sortS : Go.Proofs.SlLaysM.n6 Tryz.prog Tryz.sortS_ren := {
  mixed := by kernel_rfl
  f6 := ⟨Tryz.f120.name, by decide, Tryz.func120.trans (congrArg some (by kernel_rfl))⟩
  f8 := Tryz.func136.trans (congrArg some (by kernel_rfl))
  f9 := ⟨Tryz.f146.name, by decide, Tryz.func146.trans (congrArg some (by kernel_rfl))⟩
  f19 := Tryz.func159.trans (congrArg some (by kernel_rfl))
  f20 := Tryz.func160.trans (congrArg some (by kernel_rfl))
  f21 := ⟨Tryz.f168.name, by decide, Tryz.func168.trans (congrArg some (by kernel_rfl))⟩
  f22 := ⟨Tryz.f169.name, by decide, Tryz.func169.trans (congrArg some (by kernel_rfl))⟩
  f23 := ⟨Tryz.f170.name, by decide, Tryz.func170.trans (congrArg some (by kernel_rfl))⟩
  f24 := ⟨Tryz.f171.name, by decide, Tryz.func171.trans (congrArg some (by kernel_rfl))⟩
  f25 := ⟨Tryz.f172.name, by decide, Tryz.func172.trans (congrArg some (by kernel_rfl))⟩
  f26 := ⟨Tryz.f173.name, by decide, Tryz.func173.trans (congrArg some (by kernel_rfl))⟩
  f27 := ⟨Tryz.f174.name, by decide, Tryz.func174.trans (congrArg some (by kernel_rfl))⟩
  f28 := ⟨Tryz.f175.name, by decide, Tryz.func175.trans (congrArg some (by kernel_rfl))⟩
  f29 := ⟨Tryz.f176.name, by decide, Tryz.func176.trans (congrArg some (by kernel_rfl))⟩
  f31 := Tryz.func178.trans (congrArg some (by kernel_rfl))
  f32 := Tryz.func179.trans (congrArg some (by kernel_rfl))
  f36 := ⟨Tryz.f193.name, by decide, Tryz.func193.trans (congrArg some (by kernel_rfl))⟩
  f37 := ⟨Tryz.f194.name, by decide, Tryz.func194.trans (congrArg some (by kernel_rfl))⟩
  f38 := ⟨Tryz.f195.name, by decide, Tryz.func195.trans (congrArg some (by kernel_rfl))⟩
  f39 := ⟨Tryz.f196.name, by decide, Tryz.func196.trans (congrArg some (by kernel_rfl))⟩
  f41 := ⟨Tryz.f204.name, by decide, Tryz.func204.trans (congrArg some (by kernel_rfl))⟩
  t0 := Tryz.underlying0
  a0 := Tryz.isAgg0
  z0 := Tryz.sizeOf0
  v0 := Tryz.zeroValue0
  t3 := Tryz.underlying3
  a3 := Tryz.isAgg3
  z3 := Tryz.sizeOf3
  v3 := Tryz.zeroValue3
  t4 := Tryz.underlying4
  a4 := Tryz.isAgg4
  z4 := Tryz.sizeOf4
  v4 := Tryz.zeroValue4
  t5 := Tryz.underlying5
  a5 := Tryz.isAgg5
  z5 := Tryz.sizeOf5
  v5 := Tryz.zeroValue5
  t9 := Tryz.underlying9
  a9 := Tryz.isAgg9
  z9 := Tryz.sizeOf9
  v9 := Tryz.zeroValue9
  t26 := Tryz.underlying36
  a26 := Tryz.isAgg36
  z26 := Tryz.sizeOf36
  v26 := Tryz.zeroValue36
  t27 := Tryz.underlying36
  a27 := Tryz.isAgg36
  z27 := Tryz.sizeOf36
  v27 := Tryz.zeroValue36
  t29 := Tryz.underlying9
  a29 := Tryz.isAgg9
  z29 := Tryz.sizeOf9
  v29 := Tryz.zeroValue9
  t32 := Tryz.underlying157
  a32 := Tryz.isAgg157
  z32 := Tryz.sizeOf157
  v32 := Tryz.zeroValue157
  t35 := Tryz.underlying180
  a35 := Tryz.isAgg180
  z35 := Tryz.sizeOf180
  v35 := Tryz.zeroValue180
  t36 := Tryz.underlying181
  a36 := Tryz.isAgg181
  z36 := Tryz.sizeOf181
  v36 := Tryz.zeroValue181
  t41 := Tryz.underlying95
  a41 := Tryz.isAgg95
  z41 := Tryz.sizeOf95
  v41 := Tryz.zeroValue95
  t44 := Tryz.underlying187
  a44 := Tryz.isAgg187
  z44 := Tryz.sizeOf187
  v44 := Tryz.zeroValue187
  t46 := Tryz.underlying27
  a46 := Tryz.isAgg27
  z46 := Tryz.sizeOf27
  v46 := Tryz.zeroValue27
  t53 := Tryz.underlying206
  a53 := Tryz.isAgg206
  z53 := Tryz.sizeOf206
  v53 := Tryz.zeroValue206
  t57 := Tryz.underlying209
  a57 := Tryz.isAgg209
  z57 := Tryz.sizeOf209
  v57 := Tryz.zeroValue209
  t63 := Tryz.underlying220
  a63 := Tryz.isAgg220
  z63 := Tryz.sizeOf220
  v63 := Tryz.zeroValue220
  t64 := Tryz.underlying44
  a64 := Tryz.isAgg44
  z64 := Tryz.sizeOf44
  v64 := Tryz.zeroValue44 }
end Go.Proofs
namespace Go.Proofs
open Go.RowKit Go.Maps Go.Sort Go.Shelf
theorem Tryz.sortsS (m : Nat) : AnyZ.SortsIn Tryz.prog Tryz.sortedS_ren Fence.wide m :=
  ⟨fun blk off cap ss W hH hblk hsz => callsIn_wide.2 (AnyM.slices_Sort_string Tryz.sortS blk off cap ss W hH hblk hsz),
   fun p cap W => callsIn_wide.2 (AnyM.slices_Sort_string_none Tryz.sortS p cap W)⟩
theorem Tryz.keysOfS (mb : Option Nat) (W : World) : Calls Tryz.prog 86 #[.map mb] W fun e w' => e = .returned (.func (.func 121) #[] #[.pointer (some ⟨W.heap.size, 0, none⟩)]) ∧ w' = W.alloc (.cells #[.map mb] 89) :=
  callsIn_wide.1 (AnyZ.keys_in Tryz.keysS Fence.wide 5 trivial rfl mb W)
set_option maxHeartbeats 1000000 in
theorem Tryz.sortedOfS {H : Type} (b nn : Nat) (D0 : DataW H) (R : Value → Option (DataW H × List MemPlace)) (w : World) (hown : w.ownsMap Tryz.prog 9 R b nn D0) (hmax : Maps.size D0 ≤ maxLen) (hbytes : Maps.size D0 * 16 ≤ 140737488355328) :
    Calls Tryz.prog 85 #[.func (.func 121) #[] #[.pointer (some ⟨w.heap.size, 0, none⟩)]] (w.alloc (.cells #[.map (some b)] 89)) fun e w' => ∃ (v : Value) (ss : List (List UInt8)), e = .returned v ∧ ss.Perm (strKeys D0) ∧
      w'.ownsRow (w.alloc (.cells #[.map (some b)] 89)).heap.size 9 1 v ss.length ((ss.mergeSort (fun x y => decide (x ≤ y))).map encStr) ∧ (v = .slice none 0 0 ↔ ss = []) ∧ Below (w.alloc (.cells #[.map (some b)] 89)).heap.size (w.alloc (.cells #[.map (some b)] 89)) w' := by
  have hbl := hown.lt
  have hseq : SeqGives Fence.wide 2 Tryz.prog 121 #[.pointer (some ⟨w.heap.size, 0, none⟩)] encStr (fun ss => ss.Perm (strKeys D0)) (Maps.size D0) (w.alloc (.cells #[.map (some b)] 89)) :=
    AnyZ.keys_gives (ρ := Tryz.keysS_ren) { Tryz.keysS with } Fence.wide _ trivial rfl (by omega) w.heap.size b nn D0 _ (by simp) (by simp) (by
      obtain ⟨es, clock, hb, Ft, hs, hD⟩ := hown
      exact ⟨es, clock, (Below.heap_alloc _ _ b hbl).trans hb, Ft, hs, hD⟩)
  exact callsIn_wide.1 (AnyZ.sorted_in Tryz.sortedS Fence.wide 5 trivial trivial trivial trivial rfl (by omega) (Tryz.sortsS _) (enters_of Tryz.func120 (by kernel_rfl) rfl) 121 #[.pointer (some ⟨w.heap.size, 0, none⟩)] trivial (enters_of Tryz.func121 (by kernel_rfl) rfl) _ _ hmax hbytes _ hseq)
end Go.Proofs
namespace Go.Proofs.YtbapdoicejakhaaGreat
open Go.ChangeShapes Go.WideShapes Go.ChangeAt Go.RowKit
set_option linter.unusedVariables false
set_option linter.unusedSimpArgs false

theorem strKeys_toD (l : List (Nm × Value)) : strKeys (toD strK l) = l.map (·.1) := by
  unfold strKeys toD
  simp only [List.map_map]
  rfl
theorem bb_lt : ∀ {a b : List UInt8}, bytesBefore a b = true → a < b
  | [], [], h => by cases h
  | [], _ :: _, _ => List.nil_lt_cons _ _
  | _ :: _, [], h => by cases h
  | x :: r, y :: s, h => by
    rw [List.cons_lt_cons_iff]
    simp only [bytesBefore, Bool.or_eq_true, Bool.and_eq_true, decide_eq_true_eq, beq_iff_eq] at h
    rcases h with h | ⟨h1, h2⟩
    · exact .inl h
    · exact .inr ⟨h1, bb_lt h2⟩
theorem sorted_names {α : Type} {l : List (Nm × α)} (hl : ASorted bytesBefore l) {ss : List Nm} (hp : ss.Perm (l.map (·.1))) : ss.mergeSort (fun x y => decide (x ≤ y)) = l.map (·.1) := by
  have h1 : (ss.mergeSort (fun x y => decide (x ≤ y))).Pairwise (fun a b => decide (a ≤ b) = true) := List.pairwise_mergeSort (fun a b c h1 h2 => by simp only [decide_eq_true_eq] at *; exact List.le_trans h1 h2) (fun a b => by simp only [Bool.or_eq_true, decide_eq_true_eq]; exact List.le_total a b) ss
  have h2 : (l.map (·.1)).Pairwise (fun a b => decide (a ≤ b) = true) := by
    rw [List.pairwise_map]
    exact hl.imp fun {a b} h => by simp only [decide_eq_true_eq]; exact List.le_of_lt (bb_lt h)
  exact ((List.mergeSort_perm ss _).trans hp).eq_of_pairwise (fun a b _ _ h1 h2 => by simp only [decide_eq_true_eq] at h1 h2; exact List.le_antisymm h1 h2) h1 h2
/-- A directory's names. -/
def listM (T : TrM) (id : Int) : List Nm × Int := match aget id T with
  | none => ([], 20)
  | some x => if x.kind = 2 then (x.names.map (·.1), 0) else ([], 23)
def NewList (w : World) (q : List Nm × Int) (e : Ending) (w' : World) : Prop :=
  ∃ a c, e = .returned (.tuple #[.slice a q.1.length c, .int .i64 q.2]) ∧ q.1.length ≤ c ∧ StrsAt (fun x => w.heap.size ≤ x ∧ x < w'.heap.size) w' a q.1.length (q.1.map strOf) ∧ Below w.heap.size w w'
section
variable {g : Nat → Own} {D : Nat → Prop} {p mb : Nat} {ib nb : Int → Nat} {T : TrM}
set_option maxRecDepth 100000 in
set_option maxHeartbeats 2000000 in
theorem list_at (id : Int) (w : World) (h : TreeAt g D w p mb ib nb T) (hT : OkM T) (hid : (Lit.int .i64 id).wf = true) : Calls Tryz.prog 49 #[ptr p, .int .i64 id] w (NewList w (listM T id)) := by
  obtain ⟨hc0, hpw, hmw⟩ := h.cell
  have hok : intK.ok id := hid
  have HMAP := Lib.hid h.map
  have HT := Lib.hid hT
  cases hx : aget id T with
  | none =>
    have HG : Hid (aget id (T.map fun q => (q.1, ptr (ib q.1))) = none) := by rw [aget_ptr, hx]; rfl
    have HL : Hid (listM T id = ([], 20)) := by unfold listM; rw [hx]; exact rfl
    clear hx h hT hid
    go_enter Tryz.func49, Tryz.ntmps49
    go_wp2_with (first | (at_lookup; refine wpList_look_ok intK rfl _ _ 86 84 rfl Tryz.underlying86 (Tryz.zeroItem _) rfl HMAP.out id rfl hok ?_; rw [HG.out]))
    go_ret2
    rw [HL.out]
    exact ⟨none, 0, rfl, Nat.le_refl _, ⟨RowAt.nil _ _ _, by simp⟩, Below.refl _ _⟩
  | some x =>
    have HG : Hid (aget id (T.map fun q => (q.1, ptr (ib q.1))) = some (ptr (ib id))) := by rw [aget_ptr, hx]; rfl
    obtain ⟨c0, c1, c2, c3, c4, c5, c7, hiw⟩ := (h.item id x hx).cell
    have O1 := Lib.hid (hT.each id x hx)
    have hfew := hT.few hx
    by_cases hk : x.kind = 2
    · have HL : Hid (listM T id = (x.names.map (·.1), 0)) := by unfold listM; rw [hx]; simp only [if_pos hk]; first | exact rfl | exact trivial
      have e2 : namesV x (nb id) = .map (some (nb id)) := if_pos hk
      rw [e2] at c7
      rw [hk] at c1
      have hM := (h.item id x hx).names hk
      have hsz : (nameL x).length = x.names.length := List.length_map _
      have hkk := Tryz.keysOfS (some (nb id)) w
      have hs := Tryz.sortedOfS (nb id) (nameL x).length (toD strK (nameL x)) rawE w hM (by rw [toD_size, hsz]; unfold maxLen; omega) (by rw [toD_size, hsz]; omega)
      clear hx h hT hid hk e2 hM hsz
      go_enter Tryz.func49, Tryz.ntmps49
      go_wp2_with (first | (at_lookup; refine wpList_look_ok intK rfl _ _ 86 84 rfl Tryz.underlying86 (Tryz.zeroItem _) rfl HMAP.out id rfl hok ?_; rw [HG.out]) | (go_at_call 86; refine hkk.mono ?_; rintro e w' ⟨rfl, rfl⟩) | (go_at_call 85; refine hs.mono ?_; rintro e w' ⟨v, ss, rfl, hp, hown, hnil, hB⟩))
      go_ret2
      rw [HL.out]
      rw [strKeys_toD] at hp
      have hml : (nameL x).map (·.1) = x.names.map (·.1) := by unfold nameL; rw [List.map_map]; rfl
      rw [hml] at hp
      rw [sorted_names O1.out.sorted hp] at hown
      have hlen : ss.length = (x.names.map (·.1)).length := hp.length_eq
      have hB2 : Below w.heap.size w w' := ((Below.refl _ _).alloc (Nat.le_refl _) _).trans (hB.mono (by simp))
      have hs1 := hB.size
      rw [World.size_alloc] at hs1
      have hgood : ∀ s ∈ (x.names.map (·.1)).map strOf, s.size ≤ maxLen := by
        intro s hs
        obtain ⟨l, hl, rfl⟩ := List.mem_map.1 hs
        obtain ⟨e, he, rfl⟩ := List.mem_map.1 hl
        have := good_len _ (O1.out.good e he)
        rw [strOf_size]; unfold maxLen; omega
      have hll : (x.names.map (·.1)).length ≤ 4096 := by rw [List.length_map]; exact hfew
      obtain ⟨h1, h2⟩ := hown
      simp only [List.length_map] at h1
      generalize x.names.map (·.1) = L at *
      rcases h2 with ⟨rfl, h0⟩ | ⟨g, cap, cur, rfl, hg, hcur, hc1, hc2, hcs, htk⟩
      · have : L = [] := List.eq_nil_of_length_eq_zero (by omega)
        subst this
        exact ⟨none, 0, rfl, Nat.le_refl _, ⟨RowAt.nil _ _ _, by simp⟩, hB2⟩
      · have hgw := (Array.getElem?_eq_some_iff.1 hcur).1
        rw [World.size_alloc] at hg
        refine ⟨some ⟨g, 0, none⟩, cap, by rw [← hlen]; rfl, by simp only; omega, ⟨⟨by simp, by simp only; unfold maxLen; omega, fun h0 => ⟨g, 0, rfl, ⟨by omega, hgw⟩, hgw, fun i hi => ?_⟩⟩, hgood⟩, hB2⟩
        simp only [World.cell?, hcur, Nat.zero_add]
        rw [List.map_map, show L.map (Value.string ∘ strOf) = L.map Go.Proofs.encStr from rfl]
        rw [← htk, List.getElem?_take, if_pos (show i < ss.length * 1 by rw [hlen]; simp only at hi; omega)]
        simp
    · have HL : Hid (listM T id = ([], 23)) := by unfold listM; rw [hx]; simp only [if_neg hk]; first | exact rfl | exact trivial
      have hkk : (x.kind == 2) = false := by simpa using hk
      have hkn : (x.kind != 2) = true := by simpa using hk
      clear hx h hT hid hk c7
      go_enter Tryz.func49, Tryz.ntmps49
      go_wp2_with (first | (at_lookup; refine wpList_look_ok intK rfl _ _ 86 84 rfl Tryz.underlying86 (Tryz.zeroItem _) rfl HMAP.out id rfl hok ?_; rw [HG.out]))
      go_ret2
      rw [HL.out]
      exact ⟨none, 0, rfl, Nat.le_refl _, ⟨RowAt.nil _ _ _, by simp⟩, Below.refl _ _⟩
end
end Go.Proofs.YtbapdoicejakhaaGreat
namespace Go.Proofs.YtbapdoicejakhaaGreat
open Go.ChangeShapes Go.WideShapes Go.ChangeAt Go.RowKit
set_option linter.unusedVariables false
set_option linter.unusedSimpArgs false

/-- Rows of rows. -/
theorem flat_get {α β : Type} (f : α → List β) (k : Nat) (hk : ∀ x, (f x).length = k) : ∀ (L : List α) (i j : Nat) (x : α), L[i]? = some x → j < k → (L.flatMap f)[i * k + j]? = (f x)[j]?
  | [], i, j, x, h, _ => by simp at h
  | y :: r, 0, j, x, h, hj => by
    simp only [List.getElem?_cons_zero, Option.some.injEq] at h
    subst h
    rw [List.flatMap_cons, Nat.zero_mul, Nat.zero_add, List.getElem?_append_left (by rw [hk]; exact hj)]
  | y :: r, i + 1, j, x, h, hj => by
    rw [List.flatMap_cons, List.getElem?_append_right (by rw [hk, Nat.add_mul]; omega), hk, show (i + 1) * k + j - k = i * k + j by rw [Nat.add_mul]; omega]
    exact flat_get f k hk r i j x (by simpa using h) hj
theorem flat_len {α β : Type} (f : α → List β) (k : Nat) (hk : ∀ x, (f x).length = k) (L : List α) : (L.flatMap f).length = L.length * k := by
  induction L with
  | nil => simp
  | cons y r ih => rw [List.flatMap_cons, List.length_append, hk, ih, List.length_cons, Nat.add_mul]; omega
abbrev Ent := Int × Nm × Int
def nodeC (q : Int × ItM) : List Value := [.int .i64 q.1, .int .i64 q.2.kind, .int .i64 q.2.links, .int .i64 q.2.b.length, .int .u64 q.2.til, .bool q.2.closed]
def entC (e : Ent) : List Value := [.int .i64 e.1, .string (strOf e.2.1), .int .i64 e.2.2]
def entsOf (q : Int × ItM) : List Ent := q.2.names.map fun e => (q.1, e.1, e.2)
/-- The entries, in order. -/
def entsM (T : TrM) : List Ent := T.flatMap entsOf
/-- The rows of bytes. -/
def BytesAt (F : Nat → Prop) (w : World) (a : Option Addr) (bs : List (List UInt8)) : Prop :=
  ∃ vs : List Value, RowAt F w a bs.length vs ∧ ∀ (i : Nat) (b : List UInt8), bs[i]? = some b → ∃ (a : Option Addr) (c : Nat), vs[i]? = some (.slice a b.length c) ∧ CapOk b.length c ∧ RowAt F w a b.length (b.map bv)
theorem BytesAt.move {F F' : Nat → Prop} {w w' : World} {a : Option Addr} {bs : List (List UInt8)} (h : BytesAt F w a bs) (hs : w.heap.size ≤ w'.heap.size) (hk : ∀ b, F b → b < w.heap.size → F' b ∧ w'.heap[b]? = w.heap[b]?) : BytesAt F' w' a bs := by
  obtain ⟨vs, h1, h2⟩ := h
  refine ⟨vs, h1.move hs hk, fun i b hb => ?_⟩
  obtain ⟨a, c, h3, h4, h5⟩ := h2 i b hb
  exact ⟨a, c, h3, h4, h5.move hs hk⟩
/-- A slice's word. -/
def sl (a : Option Addr) (n c : Nat) : Value := .slice a n c
/-- A row of one's own: none, or a block from its head. -/
def Base (a : Option Addr) (c : Nat) : Prop := (a = none ∧ c = 0) ∨ ∃ b, a = some ⟨b, 0, none⟩
/-- But for r's own. -/
def Off (F : Nat → Prop) (r : Nat) : Nat → Prop := fun b => F b ∧ b ≠ r
/-- The reference's tree in memory: its nodes, their bytes, the entries. -/
structure RefP (F : Nat → Prop) (w : World) (r : Nat) (T : TrM) (D : List (List UInt8)) (E : List Ent) : Prop where
  head : ∃ aN cN aD cD aE cE, w.heap[r]? = some (.cells #[.slice aN T.length cN, .slice aD D.length cD, .slice aE E.length cE] 100 (0, 0)) ∧ T.length ≤ cN ∧ D.length ≤ cD ∧ E.length ≤ cE ∧
    RowAt (Off F r) w aN (T.length * 6) (T.flatMap nodeC) ∧ BytesAt (Off F r) w aD D ∧ RowAt (Off F r) w aE (E.length * 3) (E.flatMap entC) ∧ Base aE cE
  own : F r
  low : ∀ b, F b → b < w.heap.size
abbrev RefAt (F : Nat → Prop) (w : World) (r : Nat) (T : TrM) : Prop := RefP F w r T (T.map fun q => q.2.b) (entsM T)
theorem RefP.keeps {F fp : Nat → Prop} {w w' : World} {r : Nat} {T : TrM} {D : List (List UInt8)} {E : List Ent} (h : RefP F w r T D E) (hK : Keeps fp w w') (hn : ∀ b, F b → ¬ fp b) : RefP F w' r T D E := by
  have hk : ∀ b, Off F r b → b < w.heap.size → Off F r b ∧ w'.heap[b]? = w.heap[b]? := fun b hb hbw => ⟨hb, hK.block b hbw (hn b hb.1)⟩
  obtain ⟨aN, cN, aD, cD, aE, cE, h1, h2, h3, h4, h8, h9, h10, h11⟩ := h.head
  exact ⟨⟨aN, cN, aD, cD, aE, cE, (hK.block r (h.low r h.own) (hn r h.own)).trans h1, h2, h3, h4, h8.move hK.size hk, h9.move hK.size hk, h10.move hK.size hk, h11⟩, h.own, fun b hb => Nat.lt_of_lt_of_le (h.low b hb) hK.size⟩
theorem RefP.below {F : Nat → Prop} {w w' : World} {B r : Nat} {T : TrM} {D : List (List UInt8)} {E : List Ent} (h : RefP F w r T D E) (hb : Below B w w') (hB : w.heap.size ≤ B) : RefP F w' r T D E :=
  h.keeps (fp := fun x => B ≤ x) (Keeps.below hb) fun x hx hf => by have := h.low x hx; omega
theorem nodeC_len (q : Int × ItM) : (nodeC q).length = 6 := rfl
theorem entC_len (e : Ent) : (entC e).length = 3 := rfl
/-- A cell of a row of rows. -/
theorem RowAt.wide {α : Type} {F : Nat → Prop} {w : World} {a : Option Addr} {n k : Nat} {f : α → List Value} {L : List α} (h : RowAt F w a (n * k) (L.flatMap f)) (hk : ∀ x, (f x).length = k) (hn : L.length = n) {i : Nat} {x : α} (hx : L[i]? = some x) (hk0 : 0 < k) :
    ∃ b off, a = some ⟨b, off, none⟩ ∧ F b ∧ b < w.heap.size ∧ i < n ∧ ∀ j, j < k → w.cell? ⟨b, off + i * k + j, none⟩ = (f x)[j]? := by
  have hi : i < n := by rw [← hn]; exact (List.getElem?_eq_some_iff.1 hx).1
  have hik : i * k + k ≤ n * k := by rw [← Nat.succ_mul]; exact Nat.mul_le_mul_right k hi
  obtain ⟨b, off, e, hF, hb, hc⟩ := h.at_ (by omega)
  refine ⟨b, off, e, hF, hb, hi, fun j hj => ?_⟩
  rw [Nat.add_assoc, hc (i * k + j) (by omega), flat_get f k hk L i j x hx hj]

section
variable {F : Nat → Prop} {r : Nat} {T : TrM} {D : List (List UInt8)} {E : List Ent}
def isAt (id : Int) (q : Int × ItM) : Bool := decide (q.1 = id)
set_option maxHeartbeats 1000000 in
theorem rat_any (id : Int) (w : World) (h : RefP F w r T D E) (hl : T.length ≤ 64) : Calls Tryz.prog 64 #[ptr r, .int .i64 id] w fun e w' => e = .returned (.int .i64 (idxI (isAt id) T)) ∧ w = w' := by
  obtain ⟨aN, cN, aD, cD, aE, cE, h1, -, -, -, hN, -, -, -⟩ := h.head
  have hr0 := h.low r h.own
  have hc0 : w.cell? ⟨r, 0, none⟩ = some (.slice aN T.length cN) := by simp [World.cell?, h1]
  have HN := Lib.hid hN
  obtain ⟨n, hn⟩ : ∃ n, n = T.length := ⟨_, rfl⟩
  rw [← hn] at hc0 hl HN
  have HL := Lib.hid hn
  clear h h1 hN hn
  go_enter Tryz.func64, Tryz.ntmps64
  go_wp2
  go_loop [5] (fun i => ∃ k : Nat, k ≤ n ∧ i = .int .i64 k ∧ (T.take k).any (isAt id) = false) (fun i => n - (intOf i).toNat)
  case atStart => exact ⟨0, by omega, rfl, by simp⟩
  case round =>
    obtain ⟨k, hk, rfl, hany⟩ := hrel
    have HA := Lib.hid hany
    clear hany
    by_cases hlt : k < n
    · have hx : T[k]? = some (T[k]'(by have := HL.out; omega)) := List.getElem?_eq_getElem _
      obtain ⟨q, hq⟩ : ∃ q, q = T[k]'(by have := HL.out; omega) := ⟨_, rfl⟩
      rw [← hq] at hx
      have HX := Lib.hid hx
      obtain ⟨b, off, rfl, hF, hb, hi, hc⟩ := HN.out.wide nodeC_len HL.out.symm hx (by omega)
      have c0 : w.cell? ⟨b, off + k * 6, none⟩ = some (.int .i64 q.1) := hc 0 (by omega)
      clear hx hq hc
      have i0 : (0 : Int) ≤ k := by omega
      have i1 : (k : Int) < n := by omega
      by_cases hp : q.1 = id
      · have hpp : (q.1 == id) = true := by simpa using hp
        have HP : Hid (isAt id q = true) := by show isAt id q = true; simp [isAt, hp]
        clear hp
        go_wp2
        go_ret
        exact ⟨ret_int (idxI_some HA.out HX.out HP.out).symm, rfl⟩
      · have hpp : (q.1 == id) = false := by simpa using hp
        have HP : Hid (isAt id q = false) := by show isAt id q = false; simp [isAt, hp]
        clear hp
        go_wp2
        go_round
        case rel => exact ⟨k + 1, by omega, by go_num, any_take_succ HA.out HX.out HP.out⟩
        case measure => simp [intOf]; omega
    · go_wp2
      go_ret
      exact ⟨ret_int (idxI_none (by have := HA.out; rwa [List.take_of_length_le (by have := HL.out; omega)] at this)).symm, rfl⟩
end
end Go.Proofs.YtbapdoicejakhaaGreat
namespace Go.Proofs.YtbapdoicejakhaaGreat
open Go.ChangeShapes Go.WideShapes Go.ChangeAt Go.RowKit
set_option linter.unusedVariables false
set_option linter.unusedSimpArgs false

theorem idx_none {T : TrM} {id : Int} (h : aget id T = none) : idxI (isAt id) T = -1 := by
  refine idxI_none ?_
  rw [List.any_eq_false]
  intro q hq
  have := aget_none.1 h q hq
  simpa [isAt] using this
theorem idx_some {T : TrM} (hs : ASorted ilt T) {id : Int} {x : ItM} (h : aget id T = some x) : ∃ k : Nat, idxI (isAt id) T = k ∧ T[k]? = some (id, x) := by
  cases hf : T.findIdx? (isAt id) with
  | none =>
    rw [List.findIdx?_eq_none_iff] at hf
    have := hf _ (aget_mem h)
    simp [isAt] at this
  | some k =>
    refine ⟨k, by simp [idxI, hf], ?_⟩
    rw [List.findIdx?_eq_some_iff_getElem] at hf
    obtain ⟨hk, hp, _⟩ := hf
    have h1 : T[k]? = some T[k] := List.getElem?_eq_getElem hk
    have h2 : T[k].1 = id := by simpa [isAt] using hp
    have h3 := aget_of_mem iltLaws hs (List.getElem_mem hk)
    rw [h2, h] at h3
    rw [h1]
    congr 1
    exact Prod.ext h2 (Option.some.inj h3).symm
def isEnt (d : Int) (n : Nm) (e : Ent) : Bool := decide (e.1 = d ∧ e.2.1 = n)
section
variable {F : Nat → Prop} {r : Nat} {T : TrM} {D : List (List UInt8)} {E : List Ent}
/-- The node's cells. -/
theorem RefP.node {w : World} (h : RefP F w r T D E) {k : Nat} {q : Int × ItM} (hq : T[k]? = some q) : ∃ b off c, w.cell? ⟨r, 0, none⟩ = some (.slice (some ⟨b, off, none⟩) T.length c) ∧ Off F r b ∧ b < w.heap.size ∧ k < T.length ∧ w.cell? ⟨b, off + k * 6, none⟩ = some (.int .i64 q.1) ∧ w.cell? ⟨b, off + k * 6 + 1, none⟩ = some (.int .i64 q.2.kind) ∧ w.cell? ⟨b, off + k * 6 + 2, none⟩ = some (.int .i64 q.2.links) ∧ w.cell? ⟨b, off + k * 6 + 3, none⟩ = some (.int .i64 q.2.b.length) ∧ w.cell? ⟨b, off + k * 6 + 4, none⟩ = some (.int .u64 q.2.til) ∧ w.cell? ⟨b, off + k * 6 + 5, none⟩ = some (.bool q.2.closed) := by
  obtain ⟨aN, cN, aD, cD, aE, cE, h1, -, -, -, hN, -, -, -⟩ := h.head
  obtain ⟨b, off, rfl, hF, hb, hi, hc⟩ := hN.wide nodeC_len rfl hq (by omega)
  exact ⟨b, off, cN, by simp [World.cell?, h1], hF, hb, hi, hc 0 (by omega), hc 1 (by omega), hc 2 (by omega), hc 3 (by omega), hc 4 (by omega), hc 5 (by omega)⟩
theorem RefP.data {w : World} (h : RefP F w r T D E) {k : Nat} {d : List UInt8} (hq : D[k]? = some d) : ∃ b off c a c', w.cell? ⟨r, 1, none⟩ = some (.slice (some ⟨b, off, none⟩) D.length c) ∧ Off F r b ∧ b < w.heap.size ∧ w.cell? ⟨b, off + k, none⟩ = some (.slice a d.length c') ∧ CapOk d.length c' ∧ RowAt (Off F r) w a d.length (d.map bv) := by
  obtain ⟨aN, cN, aD, cD, aE, cE, h1, -, -, -, -, hD, -, -⟩ := h.head
  obtain ⟨vs, hv, hrow⟩ := hD
  have hk : k < D.length := (List.getElem?_eq_some_iff.1 hq).1
  obtain ⟨b, off, rfl, hF, hb, hc⟩ := hv.at_ (by omega)
  obtain ⟨a, c', h3, h4, h5⟩ := hrow k d hq
  exact ⟨b, off, cD, a, c', by simp [World.cell?, h1], hF, hb, by rw [hc k hk]; exact h3, h4, h5⟩
theorem RefP.ent {w : World} (h : RefP F w r T D E) : ∃ a c, w.cell? ⟨r, 2, none⟩ = some (.slice a E.length c) ∧ E.length ≤ c ∧ RowAt (Off F r) w a (E.length * 3) (E.flatMap entC) ∧ Base a c := by
  obtain ⟨aN, cN, aD, cD, aE, cE, h1, -, -, h4, -, -, hE, hz⟩ := h.head
  exact ⟨aE, cE, by simp [World.cell?, h1], h4, hE, hz⟩
theorem RefP.nodes {w : World} (h : RefP F w r T D E) : ∃ a c, w.cell? ⟨r, 0, none⟩ = some (.slice a T.length c) ∧ T.length ≤ c := by
  obtain ⟨aN, cN, aD, cD, aE, cE, h1, h4, -, -, -, -, -, -⟩ := h.head
  exact ⟨aN, cN, by simp [World.cell?, h1], h4⟩
set_option maxHeartbeats 1000000 in
theorem rnode_any (id : Int) (w : World) (h : RefP F w r T D E) (hT : OkP T) : Calls Tryz.prog 52 #[ptr r, .int .i64 id] w fun e w' => e = .returned (.tuple #[nodeM T id, .bool (aget id T).isSome]) ∧ Below w.heap.size w w' := by
  have hlen := hT.len
  have HR := Lib.hid (fun o => rat_any id (w.alloc o) (h.below (wall w o) (Nat.le_refl _)) hlen)
  have hr0 := h.low r h.own
  unfold nodeM
  cases hx : aget id T with
  | none =>
    rw [idx_none hx] at HR
    clear h hx hT
    go_enter Tryz.func52, Tryz.ntmps52
    go_wp2_with fail
    (with_reducible refine (HR.out _).mono ?_)
    rintro e w1 ⟨rfl, rfl⟩
    go_wp2_with fail
    exact bodyPost_ret (v := .tuple #[.agg #[.int .i64 0, .int .i64 0, .int .i64 0, .int .i64 0, .int .u64 0, .bool false], .bool false]) (by simp [results, Tryz.results52, go_sem]) rfl ⟨rfl, wall w _⟩
  | some x =>
    obtain ⟨k, hk, hq⟩ := idx_some hT.sorted hx
    rw [hk] at HR
    obtain ⟨b, off, c, hc0, hF, hb, hkl, c0, c1, c2, c3, c4, c5⟩ := h.node hq
    have i0 : (0 : Int) ≤ k := by omega
    have i1 : (k : Int) < T.length := by omega
    have i2 : ¬ (k : Int) < 0 := by omega
    simp only at c0 c1 c2 c3 c4 c5
    clear h hx hk hq hT
    unfold nodeV
    go_enter Tryz.func52, Tryz.ntmps52
    go_wp2_with fail
    (with_reducible refine (HR.out _).mono ?_)
    rintro e w1 ⟨rfl, rfl⟩
    go_wp2_with fail
    exact bodyPost_ret (v := .tuple #[.agg #[.int .i64 id, .int .i64 x.kind, .int .i64 x.links, .int .i64 x.b.length, .int .u64 x.til, .bool x.closed], .bool true]) (by simp [results, Tryz.results52, go_sem]) rfl ⟨rfl, wall w _⟩
set_option maxHeartbeats 1000000 in
theorem rentry_any (d : Int) (nm : Nm) (w : World) (h : RefP F w r T D E) (hl : E.length ≤ 1000000) : Calls Tryz.prog 63 #[ptr r, .int .i64 d, .string (strOf nm)] w fun e w' => e = .returned (.int .i64 (idxI (isEnt d nm) E)) ∧ w = w' := by
  obtain ⟨aE, cE, hc0, -, hE, -⟩ := h.ent
  have hr0 := h.low r h.own
  have HN := Lib.hid hE
  obtain ⟨n, hn⟩ : ∃ n, n = E.length := ⟨_, rfl⟩
  rw [← hn] at hc0 hl HN
  have HL := Lib.hid hn
  clear h hE hn
  go_enter Tryz.func63, Tryz.ntmps63
  go_wp2
  go_loop [7] (fun i => ∃ k : Nat, k ≤ n ∧ i = .int .i64 k ∧ (E.take k).any (isEnt d nm) = false) (fun i => n - (intOf i).toNat)
  case atStart => exact ⟨0, by omega, rfl, by simp⟩
  case round =>
    obtain ⟨k, hk, rfl, hany⟩ := hrel
    have HA := Lib.hid hany
    clear hany
    by_cases hlt : k < n
    · have hx : E[k]? = some (E[k]'(by have := HL.out; omega)) := List.getElem?_eq_getElem _
      obtain ⟨q, hq⟩ : ∃ q, q = E[k]'(by have := HL.out; omega) := ⟨_, rfl⟩
      rw [← hq] at hx
      have HX := Lib.hid hx
      obtain ⟨b, off, rfl, hF, hb, hi, hc⟩ := HN.out.wide entC_len HL.out.symm hx (by omega)
      have c0 : w.cell? ⟨b, off + k * 3, none⟩ = some (.int .i64 q.1) := hc 0 (by omega)
      have c1 : w.cell? ⟨b, off + k * 3 + 1, none⟩ = some (.string (strOf q.2.1)) := hc 1 (by omega)
      clear hx hq hc
      have i0 : (0 : Int) ≤ k := by omega
      have i1 : (k : Int) < n := by omega
      by_cases hp : q.1 = d
      · have hpp : (q.1 == d) = true := by simpa using hp
        by_cases hp2 : q.2.1 = nm
        · have HP : Hid (isEnt d nm q = true) := by show isEnt d nm q = true; simp [isEnt, hp, hp2]
          rw [hp2] at c1
          clear hp hp2
          go_wp2
          go_ret
          exact ⟨ret_int (idxI_some HA.out HX.out HP.out).symm, rfl⟩
        · have HP : Hid (isEnt d nm q = false) := by show isEnt d nm q = false; simp [isEnt, hp, hp2]
          obtain ⟨hs1, hs2⟩ := strOf_ne hp2
          clear hp hp2
          go_wp2
          go_round
          case rel => exact ⟨k + 1, by omega, by go_num, any_take_succ HA.out HX.out HP.out⟩
          case measure => simp [intOf]; omega
      · have hpp : (q.1 == d) = false := by simpa using hp
        have HP : Hid (isEnt d nm q = false) := by show isEnt d nm q = false; simp [isEnt, hp]
        clear hp
        go_wp2
        go_round
        case rel => exact ⟨k + 1, by omega, by go_num, any_take_succ HA.out HX.out HP.out⟩
        case measure => simp [intOf]; omega
    · go_wp2
      go_ret
      exact ⟨ret_int (idxI_none (by have := HA.out; rwa [List.take_of_length_le (by have := HL.out; omega)] at this)).symm, rfl⟩
end
end Go.Proofs.YtbapdoicejakhaaGreat
