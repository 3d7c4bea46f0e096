/- DERIVED: THE SHELF's CONTRACTS AT THIS DUMP, IN PLAIN WORDS (tools/lay-plain.mjs out of 'YtbapdoicejakhaaGreatLaypKeysLayT.lean', which tools/lay-shelf.mjs wrote): THE SAME DECLARATIONS UNDER THE SAME NAMES: 'import', 'namespace', 'open', 'def', 'theorem' AND NOTHING ELSE: no command of the shelf's: FOR A HAND-IN. Each laying: the table of numbers ('.._ren') and one theorem, a field a fact of the dump's own or the kernel's comparison; each contract: ONE APPLICATION. slices.Sorted(maps.Keys(m)) of a tree's nodes: the IDs, rising. tree: IDs. What Save of package tree writes, plainly. -/
import Derived.Test.YtbapdoicejakhaaGreatProg
import Derived.Shelf.SlIterI.Nil
import Derived.Shelf.SlIterI.Sorted
import Derived.Shelf.SortM.Plain
import Derived.Shelf.SortM.SortNone
import Derived.Ground.GgzProg
import Derived.Ground.SlgmProg
import Derived.Test.YtbapdoicejakhaaGreatM02
import Derived.Test.YtbapdoicejakhaaGreatM16
import Derived.Test.YtbapdoicejakhaaGreatM44
namespace Go.Proofs
open Go.Shelf
def Tryz.keysT_ren : Go.Shelf.Ren := ⟨fun | 7 => 113 | 10 => 144 | n => n, fun | 23 => 86 | 26 => 3 | 3 => 84 | 28 => 151 | 0 => 0 | 27 => 150 | 33 => 174 | 4 => 4 | n => n, fun | n => n⟩
theorem Tryz.keysT : Go.Proofs.SlLaysZI.n7 Tryz.prog Tryz.keysT_ren := {
  mixed := by kernel_rfl
  f7 := ⟨Tryz.f113.name, by decide, Tryz.func113.trans (congrArg some (by kernel_rfl))⟩
  f10 := ⟨Tryz.f144.name, by decide, Tryz.func144.trans (congrArg some (by kernel_rfl))⟩
  t0 := Tryz.underlying0
  a0 := Tryz.isAgg0
  z0 := Tryz.sizeOf0
  v0 := Tryz.zeroValue0
  t4 := Tryz.underlying4
  a4 := Tryz.isAgg4
  z4 := Tryz.sizeOf4
  v4 := Tryz.zeroValue4
  t23 := Tryz.underlying86
  a23 := Tryz.isAgg86
  z23 := Tryz.sizeOf86
  v23 := Tryz.zeroValue86
  t26 := Tryz.underlying3
  a26 := Tryz.isAgg3
  z26 := Tryz.sizeOf3
  v26 := Tryz.zeroValue3
  t27 := Tryz.underlying150
  a27 := Tryz.isAgg150
  z27 := Tryz.sizeOf150
  v27 := Tryz.zeroValue150
  t28 := Tryz.underlying151
  a28 := Tryz.isAgg151
  z28 := Tryz.sizeOf151
  v28 := Tryz.zeroValue151
  t33 := Tryz.underlying174
  a33 := Tryz.isAgg174
  z33 := Tryz.sizeOf174
  v33 := Tryz.zeroValue174 }
def Tryz.sortedT_ren : Go.Shelf.Ren := ⟨fun | 6 => 112 | 8 => 142 | 9 => 143 | 11 => 166 | 13 => 136 | 12 => 167 | 23 => 159 | 24 => 160 | 14 => 184 | 15 => 185 | 16 => 186 | 17 => 187 | 18 => 188 | 19 => 189 | 20 => 190 | 21 => 191 | 22 => 192 | 25 => 200 | 26 => 178 | 27 => 179 | 28 => 201 | 29 => 202 | 30 => 203 | 31 => 205 | n => n, fun | 26 => 3 | 28 => 151 | 24 => 49 | 0 => 0 | 3 => 3 | 37 => 157 | 48 => 187 | 50 => 27 | 4 => 4 | 40 => 181 | 39 => 180 | 45 => 95 | 5 => 5 | 9 => 9 | 51 => 206 | 55 => 209 | 57 => 220 | 58 => 44 | 33 => 174 | n => n, fun | n => n⟩
theorem Tryz.sortedT : Go.Proofs.SlLaysZI.n6 Tryz.prog Tryz.sortedT_ren := {
  mixed := by kernel_rfl
  f6 := ⟨Tryz.f112.name, by decide, Tryz.func112.trans (congrArg some (by kernel_rfl))⟩
  f8 := ⟨Tryz.f142.name, by decide, Tryz.func142.trans (congrArg some (by kernel_rfl))⟩
  f11 := ⟨Tryz.f166.name, by decide, Tryz.func166.trans (congrArg some (by kernel_rfl))⟩
  t0 := Tryz.underlying0
  a0 := Tryz.isAgg0
  z0 := Tryz.sizeOf0
  v0 := Tryz.zeroValue0
  t24 := Tryz.underlying49
  a24 := Tryz.isAgg49
  z24 := Tryz.sizeOf49
  v24 := Tryz.zeroValue49
  t26 := Tryz.underlying3
  a26 := Tryz.isAgg3
  z26 := Tryz.sizeOf3
  v26 := Tryz.zeroValue3
  t28 := Tryz.underlying151
  a28 := Tryz.isAgg151
  z28 := Tryz.sizeOf151
  v28 := Tryz.zeroValue151
  i26 := by kernel_rfl }
def Tryz.sortT_ren : Go.Shelf.Ren := ⟨fun | 5 => 143 | 8 => 136 | 7 => 167 | 19 => 159 | 20 => 160 | 10 => 184 | 11 => 185 | 12 => 186 | 13 => 187 | 14 => 188 | 15 => 189 | 16 => 190 | 17 => 191 | 18 => 192 | 30 => 200 | 31 => 178 | 32 => 179 | 33 => 201 | 34 => 202 | 35 => 203 | 40 => 205 | n => n, fun | 23 => 49 | 25 => 3 | 3 => 3 | 32 => 157 | 22 => 49 | 0 => 0 | 44 => 187 | 46 => 27 | 4 => 4 | 36 => 181 | 35 => 180 | 41 => 95 | 5 => 5 | 9 => 9 | 53 => 206 | 57 => 209 | 63 => 220 | 64 => 44 | n => n, fun | n => n⟩
theorem Tryz.sortT : Go.Proofs.SlLaysM.n5 Tryz.prog Tryz.sortT_ren := {
  mixed := by kernel_rfl
  f5 := ⟨Tryz.f143.name, by decide, Tryz.func143.trans (congrArg some (by kernel_rfl))⟩
  f7 := ⟨Tryz.f167.name, by decide, Tryz.func167.trans (congrArg some (by kernel_rfl))⟩
  f8 := Tryz.func136.trans (congrArg some (by kernel_rfl))
  f10 := ⟨Tryz.f184.name, by decide, Tryz.func184.trans (congrArg some (by kernel_rfl))⟩
  f11 := ⟨Tryz.f185.name, by decide, Tryz.func185.trans (congrArg some (by kernel_rfl))⟩
  f12 := ⟨Tryz.f186.name, by decide, Tryz.func186.trans (congrArg some (by kernel_rfl))⟩
  f13 := ⟨Tryz.f187.name, by decide, Tryz.func187.trans (congrArg some (by kernel_rfl))⟩
  f14 := ⟨Tryz.f188.name, by decide, Tryz.func188.trans (congrArg some (by kernel_rfl))⟩
  f15 := ⟨Tryz.f189.name, by decide, Tryz.func189.trans (congrArg some (by kernel_rfl))⟩
  f16 := ⟨Tryz.f190.name, by decide, Tryz.func190.trans (congrArg some (by kernel_rfl))⟩
  f17 := ⟨Tryz.f191.name, by decide, Tryz.func191.trans (congrArg some (by kernel_rfl))⟩
  f18 := ⟨Tryz.f192.name, by decide, Tryz.func192.trans (congrArg some (by kernel_rfl))⟩
  f19 := Tryz.func159.trans (congrArg some (by kernel_rfl))
  f20 := Tryz.func160.trans (congrArg some (by kernel_rfl))
  f30 := ⟨Tryz.f200.name, by decide, Tryz.func200.trans (congrArg some (by kernel_rfl))⟩
  f31 := Tryz.func178.trans (congrArg some (by kernel_rfl))
  f32 := Tryz.func179.trans (congrArg some (by kernel_rfl))
  f33 := ⟨Tryz.f201.name, by decide, Tryz.func201.trans (congrArg some (by kernel_rfl))⟩
  f34 := ⟨Tryz.f202.name, by decide, Tryz.func202.trans (congrArg some (by kernel_rfl))⟩
  f35 := ⟨Tryz.f203.name, by decide, Tryz.func203.trans (congrArg some (by kernel_rfl))⟩
  f40 := ⟨Tryz.f205.name, by decide, Tryz.func205.trans (congrArg some (by kernel_rfl))⟩
  t0 := Tryz.underlying0
  a0 := Tryz.isAgg0
  z0 := Tryz.sizeOf0
  v0 := Tryz.zeroValue0
  t3 := Tryz.underlying3
  a3 := Tryz.isAgg3
  z3 := Tryz.sizeOf3
  v3 := Tryz.zeroValue3
  t4 := Tryz.underlying4
  a4 := Tryz.isAgg4
  z4 := Tryz.sizeOf4
  v4 := Tryz.zeroValue4
  t5 := Tryz.underlying5
  a5 := Tryz.isAgg5
  z5 := Tryz.sizeOf5
  v5 := Tryz.zeroValue5
  t9 := Tryz.underlying9
  a9 := Tryz.isAgg9
  z9 := Tryz.sizeOf9
  v9 := Tryz.zeroValue9
  t22 := Tryz.underlying49
  a22 := Tryz.isAgg49
  z22 := Tryz.sizeOf49
  v22 := Tryz.zeroValue49
  t23 := Tryz.underlying49
  a23 := Tryz.isAgg49
  z23 := Tryz.sizeOf49
  v23 := Tryz.zeroValue49
  t25 := Tryz.underlying3
  a25 := Tryz.isAgg3
  z25 := Tryz.sizeOf3
  v25 := Tryz.zeroValue3
  t32 := Tryz.underlying157
  a32 := Tryz.isAgg157
  z32 := Tryz.sizeOf157
  v32 := Tryz.zeroValue157
  t35 := Tryz.underlying180
  a35 := Tryz.isAgg180
  z35 := Tryz.sizeOf180
  v35 := Tryz.zeroValue180
  t36 := Tryz.underlying181
  a36 := Tryz.isAgg181
  z36 := Tryz.sizeOf181
  v36 := Tryz.zeroValue181
  t41 := Tryz.underlying95
  a41 := Tryz.isAgg95
  z41 := Tryz.sizeOf95
  v41 := Tryz.zeroValue95
  t44 := Tryz.underlying187
  a44 := Tryz.isAgg187
  z44 := Tryz.sizeOf187
  v44 := Tryz.zeroValue187
  t46 := Tryz.underlying27
  a46 := Tryz.isAgg27
  z46 := Tryz.sizeOf27
  v46 := Tryz.zeroValue27
  t53 := Tryz.underlying206
  a53 := Tryz.isAgg206
  z53 := Tryz.sizeOf206
  v53 := Tryz.zeroValue206
  t57 := Tryz.underlying209
  a57 := Tryz.isAgg209
  z57 := Tryz.sizeOf209
  v57 := Tryz.zeroValue209
  t63 := Tryz.underlying220
  a63 := Tryz.isAgg220
  z63 := Tryz.sizeOf220
  v63 := Tryz.zeroValue220
  t64 := Tryz.underlying44
  a64 := Tryz.isAgg44
  z64 := Tryz.sizeOf44
  v64 := Tryz.zeroValue44 }
end Go.Proofs
namespace Go.Proofs
open Go.RowKit Go.Maps Go.Sort Go.Shelf
theorem Tryz.sortsT (m : Nat) : AnyZI.SortsIn Tryz.prog Tryz.sortedT_ren Fence.wide m :=
  ⟨fun blk off cap ss W hH hblk hsz => callsIn_wide.2 (AnyM.slices_Sort_int Tryz.sortT blk off cap ss W hH hblk hsz),
   fun p cap W => callsIn_wide.2 (AnyM.slices_Sort_int_none Tryz.sortT p cap W)⟩
theorem Tryz.keysOfT (mb : Option Nat) (W : World) : Calls Tryz.prog 113 #[.map mb] W fun e w' => e = .returned (.func (.func 144) #[] #[.pointer (some ⟨W.heap.size, 0, none⟩)]) ∧ w' = W.alloc (.cells #[.map mb] 86) :=
  callsIn_wide.1 (AnyZI.keys_in Tryz.keysT Fence.wide 5 trivial rfl mb W)
set_option maxHeartbeats 1000000 in
theorem Tryz.sortedOfT {H : Type} (b nn : Nat) (D0 : DataW H) (R : Value → Option (DataW H × List MemPlace)) (w : World) (hown : w.ownsMap Tryz.prog 3 R b nn D0) (hmax : Maps.size D0 ≤ maxLen) (hbytes : Maps.size D0 * 8 ≤ 140737488355328) :
    Calls Tryz.prog 112 #[.func (.func 144) #[] #[.pointer (some ⟨w.heap.size, 0, none⟩)]] (w.alloc (.cells #[.map (some b)] 86)) fun e w' => ∃ (v : Value) (ss : List Int), e = .returned v ∧ ss.Perm (intKeys D0) ∧
      w'.ownsRow (w.alloc (.cells #[.map (some b)] 86)).heap.size 3 1 v ss.length ((ss.mergeSort (fun x y => decide (x ≤ y))).map encZ) ∧ (v = .slice none 0 0 ↔ ss = []) ∧ Below (w.alloc (.cells #[.map (some b)] 86)).heap.size (w.alloc (.cells #[.map (some b)] 86)) w' := by
  have hbl := hown.lt
  have hseq : SeqGives Fence.wide 2 Tryz.prog 144 #[.pointer (some ⟨w.heap.size, 0, none⟩)] encZ (fun ss => ss.Perm (intKeys D0)) (Maps.size D0) (w.alloc (.cells #[.map (some b)] 86)) :=
    AnyZI.keys_gives (ρ := Tryz.keysT_ren) { Tryz.keysT with } Fence.wide _ trivial rfl (by omega) w.heap.size b nn D0 _ (by simp) (by simp) (by
      obtain ⟨es, clock, hb, Ft, hs, hD⟩ := hown
      exact ⟨es, clock, (Below.heap_alloc _ _ b hbl).trans hb, Ft, hs, hD⟩)
  exact callsIn_wide.1 (AnyZI.sorted_in Tryz.sortedT Fence.wide 5 trivial trivial trivial trivial rfl (by omega) (Tryz.sortsT _) (enters_of Tryz.func143 (by kernel_rfl) rfl) 144 #[.pointer (some ⟨w.heap.size, 0, none⟩)] trivial (enters_of Tryz.func144 (by kernel_rfl) rfl) _ _ hmax hbytes _ hseq)
end Go.Proofs
namespace Go.Proofs.YtbapdoicejakhaaGreat
open Go.ChangeShapes Go.WideShapes Go.ChangeAt Go.RowKit
set_option linter.unusedVariables false
set_option linter.unusedSimpArgs false

theorem intKeys_toD (l : List (Int × Value)) : intKeys (toD intK l) = l.map (·.1) := by
  unfold intKeys toD
  simp only [List.map_map]
  rfl
theorem sorted_keys {α : Type} {l : List (Int × α)} (hl : ASorted (fun a b : Int => decide (a < b)) l) {ss : List Int} (hp : ss.Perm (l.map (·.1))) : ss.mergeSort (fun x y => decide (x ≤ y)) = l.map (·.1) := by
  have h1 : (ss.mergeSort (fun x y => decide (x ≤ y))).Pairwise (fun a b => decide (a ≤ b) = true) := List.pairwise_mergeSort (fun a b c h1 h2 => by simp at *; omega) (fun a b => by simp; omega) ss
  have h2 : (l.map (·.1)).Pairwise (fun a b => decide (a ≤ b) = true) := by
    rw [List.pairwise_map]
    exact hl.imp fun {a b} h => by simp at *; omega
  exact ((List.mergeSort_perm ss _).trans hp).eq_of_pairwise (fun a b _ _ h1 h2 => by simp at *; omega) h1 h2
/-- A new slice of ints. -/
def NewInts (w : World) (zs : List Int) (e : Ending) (w' : World) : Prop :=
  ∃ a cap, e = .returned (.slice a zs.length cap) ∧ zs.length ≤ cap ∧ RowAt (fun x => w.heap.size ≤ x ∧ x < w'.heap.size) w' a zs.length (zs.map (Value.int .i64)) ∧ Below w.heap.size w w'
def idsM (T : TrM) : List Int := T.map (·.1)
section
variable {g : Nat → Own} {D : Nat → Prop} {p mb : Nat} {ib nb : Int → Nat} {T : TrM}
set_option maxRecDepth 100000 in
set_option maxHeartbeats 1000000 in
theorem ids_any (w : World) (h : TreeAt g D w p mb ib nb T) (hl : T.length ≤ 100000) : Calls Tryz.prog 82 #[ptr p] w (NewInts w (idsM T)) := by
  obtain ⟨hc0, hpw, hmw⟩ := h.cell
  have hsz : (T.map fun q => (q.1, ptr (ib q.1))).length = T.length := List.length_map _
  have hkk : (T.map fun q => (q.1, ptr (ib q.1))).map (·.1) = idsM T := by unfold idsM; rw [List.map_map]; rfl
  have hso := h.map.sorted.1
  have hk := Tryz.keysOfT (some mb) w
  have hs := Tryz.sortedOfT mb (T.map fun q : Int × ItM => (q.1, ptr (ib q.1))).length (toD intK (T.map fun q : Int × ItM => (q.1, ptr (ib q.1)))) rawE w h.map (by rw [toD_size, hsz]; unfold maxLen; omega) (by rw [toD_size, hsz]; omega)
  have HSO := Lib.hid hso
  have HKK := Lib.hid hkk
  clear h hso hkk hsz
  go_enter Tryz.func82, Tryz.ntmps82
  go_wp2_with (first | (go_at_call 113; refine hk.mono ?_; rintro e w' ⟨rfl, rfl⟩) | (go_at_call 112; refine hs.mono ?_; rintro e w' ⟨v, ss, rfl, hp, hown, hnil, hB⟩))
  go_ret
  rw [intKeys_toD] at hp
  rw [sorted_keys HSO.out hp, HKK.out] at hown
  have hlen : ss.length = (idsM T).length := by
    have := hp.length_eq
    rw [HKK.out] at this
    exact this
  have hB2 : Below w.heap.size w w' := ((Below.refl _ _).alloc (Nat.le_refl _) _).trans (hB.mono (by simp))
  have hs1 := hB.size
  rw [World.size_alloc] at hs1
  obtain ⟨h1, h2⟩ := hown
  simp only [List.length_map] at h1
  rcases h2 with ⟨rfl, h0⟩ | ⟨g, cap, cur, rfl, hg, hcur, hc1, hc2, hcs, htk⟩
  · have h00 : (idsM T).length = 0 := by omega
    have : idsM T = [] := List.eq_nil_of_length_eq_zero h00
    rw [this]
    exact ⟨none, 0, rfl, Nat.le_refl _, RowAt.nil _ _ _, hB2⟩
  · have hgw := (Array.getElem?_eq_some_iff.1 hcur).1
    rw [World.size_alloc] at hg
    refine ⟨some ⟨g, 0, none⟩, cap, by rw [← hlen]; rfl, by omega, ⟨by simp, by omega, fun h0 => ⟨g, 0, rfl, ⟨by omega, hgw⟩, hgw, fun i hi => ?_⟩⟩, hB2⟩
    simp only [World.cell?, hcur, Nat.zero_add]
    rw [show (idsM T).map (Value.int .i64) = (idsM T).map encZ from rfl]
    rw [← htk, List.getElem?_take, if_pos (show i < ss.length * 1 by rw [hlen]; omega)]
    simp
end
end Go.Proofs.YtbapdoicejakhaaGreat
namespace Go.Proofs.YtbapdoicejakhaaGreat
open Go.ChangeShapes Go.WideShapes Go.ChangeAt Go.RowKit
set_option linter.unusedVariables false
set_option linter.unusedSimpArgs false

/-- A row's bytes, its length ahead. -/
def rowB (l : List UInt8) : List UInt8 := beB l.length 2 ++ l
def nmB (e : Nm × Int) : List UInt8 := rowB e.1 ++ beB e.2 2
def itemB (k : Int) (x : ItM) : List UInt8 := rowB (encB k x) ++ rowB x.b ++ beB x.names.length 2 ++ x.names.flatMap nmB
def saveB (T : TrM) : List UInt8 := beB T.length 2 ++ T.flatMap fun q => itemB q.1 q.2
theorem goodL_len16 {n : Nm} (h : goodL n = true) : n.length ≤ 16 := by
  unfold goodL at h
  simp only [Bool.and_eq_true, decide_eq_true_eq] at h
  exact h.1.1.2
theorem rowB_len (l : List UInt8) : (rowB l).length = 2 + l.length := by unfold rowB; rw [List.length_append, beB_len]
theorem nms_len : ∀ (l : List (Nm × Int)), (∀ e ∈ l, e.1.length ≤ 16) → (l.flatMap nmB).length ≤ 20 * l.length
  | [], _ => by simp
  | e :: r, h => by
    have h1 := h e (by simp)
    have h2 := nms_len r fun y hy => h y (by simp [hy])
    simp only [List.flatMap_cons, List.length_append, List.length_cons, nmB, rowB_len, beB_len]
    omega
theorem item_len {k : Int} {x : ItM} (h : Ok1 x) (hf : x.names.length ≤ 4096) : (itemB k x).length ≤ 90000 := by
  have h1 := nms_len x.names fun e he => goodL_len16 (h.good e he)
  have h2 := h.size
  unfold itemB
  simp only [List.length_append, rowB_len, beB_len, encB_len]
  omega
theorem items_len {T : TrM} (hT : OkM T) : ∀ (l : TrM), (∀ q ∈ l, q ∈ T) → (l.flatMap fun q => itemB q.1 q.2).length ≤ 90000 * l.length
  | [], _ => by simp
  | q :: r, h => by
    have hq := aget_of_mem iltLaws hT.sorted (h q (by simp))
    have h1 := item_len (k := q.1) (hT.each _ _ hq) (hT.few hq)
    have h2 := items_len hT r fun y hy => h y (by simp [hy])
    simp only [List.flatMap_cons, List.length_append, List.length_cons]
    omega
end Go.Proofs.YtbapdoicejakhaaGreat
