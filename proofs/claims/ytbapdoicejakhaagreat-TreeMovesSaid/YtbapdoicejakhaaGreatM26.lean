/- Arguments opened: slices of bytes, of truths, of structs. The lemma open_slice_fields is the guide's own (extra-structs). The reference's tree in memory; at, Node, entry. The reference: Node, entry. What chapter 7's reference says: Good, Within. -/
import Derived.Test.YtbapdoicejakhaaGreatM03
import Derived.Deep.Slices
import Derived.Deep.Fields
import Derived.Deep.Grids
import Derived.ChangeSame
import Derived.Lib.SmallJoins
import Derived.Test.YtbapdoicejakhaaGreatM25
import Derived.Test.YtbapdoicejakhaaGreatM22
namespace Go.Proofs.YtbapdoicejakhaaGreat
open Go.Joins Go.ChangeShapes Go.WideShapes Go.ChangeAt Go.RowKit Go.Deep
set_option linter.unusedVariables false
section
variable {H : Type} {enc : TypeId × Value → H} {P : Program} {w : World} {base : Nat} {spare : Nat → Bool} {held : Bool}
theorem open_slice_fields {t e : TypeId} {fs : Array Field} {fuel : Nat} {cs : List Value} {x : DataW H × List MemPlace} (ht : P.underlying t = some (.slice e)) (he : P.underlying e = some (.struct fs))
    (hone : oneCellFields P fs = true) (hC : P.cellsOf e = fs.size) (h : DataW.trod enc P w base spare held fuel t cs = some x) :
    (cs = [.slice none 0 0] ∧ x = (.nil, [])) ∨
    ∃ (a : Addr) (len cap m : Nat) (D : Nat → DataW H) (Pl : Nat → List MemPlace), cs = [.slice (some a) len cap] ∧ base ≤ a.block ∧ len ≤ cap ∧ cap ≤ maxLen ∧ m = (if spare a.block then cap else len) ∧
      x = (.slice ((List.range len).map D) ((List.range (m - len)).map fun j => D (len + j)), MemPlace.row a (m * fs.size) ++ (List.range m).flatMap Pl) ∧
      ∀ i, i < m → ∃ (ys : List (DataW H × List MemPlace)) (n : Nat), D i = .agg (ys.map (·.1)) ∧ Pl i = ys.flatMap (·.2) ∧ ys.length = fs.size ∧
        ∀ (j : Nat) (f : Field), fs[j]? = some f → ∃ (v : Value) (y : DataW H × List MemPlace), w.cell? (a.add (i * fs.size + j)) = some v ∧ ys[j]? = some y ∧ DataW.trod enc P w base spare held n f.type [v] = some y := by
  rcases open_slice ht h with h0 | ⟨a, len, cap, m, n, D, Pl, hcs, hb, hl, hm, hmm, hx, hi⟩
  · exact .inl h0
  · refine .inr ⟨a, len, cap, m, D, Pl, hcs, hb, hl, hm, hmm, by rw [hC] at hx; exact hx, fun i him => ?_⟩
    obtain ⟨cs', hc, ht'⟩ := hi i him
    rw [hC] at hc
    obtain ⟨ys, n', hn', hy, hlen, hyl, hf⟩ := DataW.trod_struct he ht'
    obtain ⟨_, hcl, hat⟩ := World.cells?_some hc
    simp only [Prod.mk.injEq] at hy
    refine ⟨ys, n', hy.1, hy.2, hyl, fun j f hj => ?_⟩
    obtain ⟨ho, hk⟩ := hone_of hone j f hj
    have hjl : j < fs.size := (Array.getElem?_eq_some_iff.1 hj).1
    have hcell := hat j hjl
    have hv : cs'[j]? = some (cs'[j]'(by omega)) := List.getElem?_eq_getElem (by omega)
    have h1 := hf j f hj
    rw [ho, hk] at h1
    have hone' : (cs'.drop j).take 1 = [cs'[j]'(by omega)] := by
      rw [List.drop_eq_getElem_cons (by omega)]
      rfl
    rw [hone'] at h1
    have hys : ys[j]? = some (ys[j]'(by omega)) := List.getElem?_eq_getElem (by omega)
    refine ⟨_, _, ?_, hys, h1.trans hys⟩
    rw [← Go.Deep.add_add, hcell, hv]
end

section
variable {H : Type} {enc : TypeId × Value → H} {W : World}
def byteOf (z : Int) : UInt8 := UInt8.ofNat z.toNat
theorem bv_byteOf {z : Int} (h : (Lit.int .u8 z).wf = true) : bv (byteOf z) = .int .u8 z := by
  simp [Lit.wf, IntKind.min, IntKind.max, IntKind.signed, IntKind.bits] at h
  unfold bv byteOf
  rw [UInt8.toNat_ofNat']
  congr 1
  omega
/-- What is the world's own. -/
abbrev Old (W : World) (x : Nat) : Prop := x < W.heap.size

theorem open_bytesT {fuel : Nat} {v : Value} {x : DataW H × List MemPlace} (h : DataW.trod enc Tryz.prog W 0 (fun _ => true) true fuel 51 [v] = some x) (l : ∀ p ∈ x.2, p.block < W.heap.size) :
    ∃ a len cap bs, v = .slice a len cap ∧ len ≤ cap ∧ RowAt (Old W) W a len ((bs : List UInt8).map bv) := by
  rcases open_ints Tryz.underlying51 Tryz.underlying5 (by kernel_rfl) h with ⟨hcs, hx⟩ | ⟨a, len, cap, zs, hcs, _, hl, hm, hz, hx, hcell, hwz⟩
  · simp only [List.cons.injEq, and_true] at hcs
    subst hcs
    exact ⟨none, 0, 0, [], rfl, Nat.le_refl _, RowAt.nil _ _ _⟩
  · simp only [List.cons.injEq, and_true] at hcs
    subst hcs
    subst hx
    simp only [if_true] at hz
    refine ⟨some a, len, cap, (zs.take len).map byteOf, rfl, hl, by simp; omega, by omega, fun h0 => ?_⟩
    obtain ⟨b, off, spot⟩ := a
    have hspot : spot = none := by simpa [Addr.add] using World.cell?_spot (hcell 0 (by omega))
    subst hspot
    have hb : b < W.heap.size := l (.cell b off) (MemPlace.mem_row.2 ⟨0, by omega, by simp⟩)
    refine ⟨b, off, rfl, hb, hb, fun i hi => ?_⟩
    have h1 := hcell i (by omega)
    rw [add_plain] at h1
    have hi' : i < zs.length := by omega
    rw [h1, List.map_map, List.getElem?_map, List.getElem?_take, if_pos hi, List.getElem?_eq_getElem hi']
    simp only [Option.map_some, Function.comp, List.getD, List.getElem?_eq_getElem hi', Option.getD_some]
    rw [bv_byteOf (hwz _ (List.getElem_mem hi'))]
end

section
variable {H : Type} {P : Program}
theorem weightsAll_mem {e : TypeId} : ∀ {l : List (DataW H)} {d : DataW H}, d ∈ l → ∀ n ∈ d.weights P e, n ∈ DataW.weightsAll P e l
  | x :: r, d, h, n, hn => by
    rcases List.mem_cons.1 h with rfl | h
    · exact List.mem_append_left _ hn
    · exact List.mem_append_right _ (weightsAll_mem h n hn)
theorem weightsEach_at : ∀ {ts : List TypeId} {ds : List (DataW H)} {j : Nat} {t : TypeId} {d : DataW H}, ts[j]? = some t → ds[j]? = some d → ∀ n ∈ d.weights P t, n ∈ DataW.weightsEach P ts ds
  | t' :: ts, d' :: ds, 0, t, d, ht, hd, n, hn => by
    simp only [List.getElem?_cons_zero, Option.some.injEq] at ht hd
    subst ht hd
    exact List.mem_append_left _ hn
  | t' :: ts, d' :: ds, j + 1, t, d, ht, hd, n, hn => by
    simp only [List.getElem?_cons_succ] at ht hd
    exact List.mem_append_right _ (weightsEach_at ht hd n hn)
  | [], _, _, _, _, ht, _, _, _ => by simp at ht
  | _ :: _, [], _, _, _, _, hd, _, _ => by simp at hd
theorem weights_head {t e : TypeId} (ht : P.underlying t = some (.slice e)) (elems rest : List (DataW H)) : (elems.length + rest.length) * P.bytesOf e ∈ (DataW.slice elems rest).weights P t := by
  unfold DataW.weights
  rw [ht]
  exact List.mem_cons_self
theorem weights_elem {t e : TypeId} (ht : P.underlying t = some (.slice e)) {elems rest : List (DataW H)} {d : DataW H} (hd : d ∈ elems) {n : Nat} (hn : n ∈ d.weights P e) : n ∈ (DataW.slice elems rest).weights P t := by
  unfold DataW.weights
  rw [ht]
  exact List.mem_cons_of_mem _ (List.mem_append_left _ (weightsAll_mem hd n hn))
theorem weights_part {t : TypeId} {fs : Array Field} (ht : P.underlying t = some (.struct fs)) {parts : List (DataW H)} {j : Nat} {f : Field} {d : DataW H} (hf : fs[j]? = some f) (hd : parts[j]? = some d) {n : Nat} (hn : n ∈ d.weights P f.type) : n ∈ (DataW.agg parts).weights P t := by
  unfold DataW.weights
  rw [ht]
  refine weightsEach_at (j := j) (t := f.type) (d := d) ?_ hd n hn
  rw [List.getElem?_map, Array.getElem?_toList, hf]
  rfl
end
section
variable {H : Type} {enc : TypeId × Value → H} {W : World}
theorem bytes8 : Tryz.prog.bytesOf 5 = 1 := by kernel_rfl
/-- .. within the reach. -/
theorem open_bytesW {fuel : Nat} {v : Value} {x : DataW H × List MemPlace} (h : DataW.trod enc Tryz.prog W 0 (fun _ => true) true fuel 51 [v] = some x) (l : ∀ p ∈ x.2, p.block < W.heap.size) (hw : ∀ n ∈ x.1.weights Tryz.prog 51, n ≤ reachBytes) :
    ∃ a len cap bs, v = .slice a len cap ∧ len ≤ cap ∧ RowAt (Old W) W a len ((bs : List UInt8).map bv) ∧ len ≤ 140737488351232 := by
  obtain ⟨a, len, cap, bs, rfl, hlc, hr⟩ := open_bytesT h l
  refine ⟨a, len, cap, bs, rfl, hlc, hr, ?_⟩
  rcases open_ints Tryz.underlying51 Tryz.underlying5 (by kernel_rfl) h with ⟨hcs, hx⟩ | ⟨a', len', cap', zs, hcs, _, hl, hm, hz, hx, _, _⟩
  · simp only [List.cons.injEq, and_true, Value.slice.injEq] at hcs
    obtain ⟨_, rfl, _⟩ := hcs
    omega
  · simp only [List.cons.injEq, and_true, Value.slice.injEq] at hcs
    obtain ⟨_, rfl, _⟩ := hcs
    subst hx
    have h1 := hw _ (weights_head Tryz.underlying51 _ _)
    rw [bytes8] at h1
    simp only [if_true] at hz
    unfold lits at h1
    simp only [List.length_map, List.length_take, List.length_drop] at h1
    unfold reachBytes at h1
    omega
end
end Go.Proofs.YtbapdoicejakhaaGreat
namespace Go.Proofs.YtbapdoicejakhaaGreat
open Go.ChangeShapes Go.WideShapes Go.ChangeAt Go.RowKit
set_option linter.unusedVariables false
set_option linter.unusedSimpArgs false

/-- Rows of rows. -/
theorem flat_get {α β : Type} (f : α → List β) (k : Nat) (hk : ∀ x, (f x).length = k) : ∀ (L : List α) (i j : Nat) (x : α), L[i]? = some x → j < k → (L.flatMap f)[i * k + j]? = (f x)[j]?
  | [], i, j, x, h, _ => by simp at h
  | y :: r, 0, j, x, h, hj => by
    simp only [List.getElem?_cons_zero, Option.some.injEq] at h
    subst h
    rw [List.flatMap_cons, Nat.zero_mul, Nat.zero_add, List.getElem?_append_left (by rw [hk]; exact hj)]
  | y :: r, i + 1, j, x, h, hj => by
    rw [List.flatMap_cons, List.getElem?_append_right (by rw [hk, Nat.add_mul]; omega), hk, show (i + 1) * k + j - k = i * k + j by rw [Nat.add_mul]; omega]
    exact flat_get f k hk r i j x (by simpa using h) hj
theorem flat_len {α β : Type} (f : α → List β) (k : Nat) (hk : ∀ x, (f x).length = k) (L : List α) : (L.flatMap f).length = L.length * k := by
  induction L with
  | nil => simp
  | cons y r ih => rw [List.flatMap_cons, List.length_append, hk, ih, List.length_cons, Nat.add_mul]; omega
abbrev Ent := Int × Nm × Int
def nodeC (q : Int × ItM) : List Value := [.int .i64 q.1, .int .i64 q.2.kind, .int .i64 q.2.links, .int .i64 q.2.b.length, .int .u64 q.2.til, .bool q.2.closed]
def entC (e : Ent) : List Value := [.int .i64 e.1, .string (strOf e.2.1), .int .i64 e.2.2]
def entsOf (q : Int × ItM) : List Ent := q.2.names.map fun e => (q.1, e.1, e.2)
/-- The entries, in order. -/
def entsM (T : TrM) : List Ent := T.flatMap entsOf
/-- The rows of bytes. -/
def BytesAt (F : Nat → Prop) (w : World) (a : Option Addr) (bs : List (List UInt8)) : Prop :=
  ∃ vs : List Value, RowAt F w a bs.length vs ∧ ∀ (i : Nat) (b : List UInt8), bs[i]? = some b → ∃ (a : Option Addr) (c : Nat), vs[i]? = some (.slice a b.length c) ∧ CapOk b.length c ∧ RowAt F w a b.length (b.map bv)
theorem BytesAt.move {F F' : Nat → Prop} {w w' : World} {a : Option Addr} {bs : List (List UInt8)} (h : BytesAt F w a bs) (hs : w.heap.size ≤ w'.heap.size) (hk : ∀ b, F b → b < w.heap.size → F' b ∧ w'.heap[b]? = w.heap[b]?) : BytesAt F' w' a bs := by
  obtain ⟨vs, h1, h2⟩ := h
  refine ⟨vs, h1.move hs hk, fun i b hb => ?_⟩
  obtain ⟨a, c, h3, h4, h5⟩ := h2 i b hb
  exact ⟨a, c, h3, h4, h5.move hs hk⟩
/-- A slice's word. -/
def sl (a : Option Addr) (n c : Nat) : Value := .slice a n c
/-- A row of one's own: none, or a block from its head. -/
def Base (a : Option Addr) (c : Nat) : Prop := (a = none ∧ c = 0) ∨ ∃ b, a = some ⟨b, 0, none⟩
/-- But for r's own. -/
def Off (F : Nat → Prop) (r : Nat) : Nat → Prop := fun b => F b ∧ b ≠ r
/-- The reference's tree in memory: its nodes, their bytes, the entries. -/
structure RefP (F : Nat → Prop) (w : World) (r : Nat) (T : TrM) (D : List (List UInt8)) (E : List Ent) : Prop where
  head : ∃ aN cN aD cD aE cE, w.heap[r]? = some (.cells #[.slice aN T.length cN, .slice aD D.length cD, .slice aE E.length cE] 100 (0, 0)) ∧ T.length ≤ cN ∧ D.length ≤ cD ∧ E.length ≤ cE ∧
    RowAt (Off F r) w aN (T.length * 6) (T.flatMap nodeC) ∧ BytesAt (Off F r) w aD D ∧ RowAt (Off F r) w aE (E.length * 3) (E.flatMap entC) ∧ Base aE cE
  own : F r
  low : ∀ b, F b → b < w.heap.size
abbrev RefAt (F : Nat → Prop) (w : World) (r : Nat) (T : TrM) : Prop := RefP F w r T (T.map fun q => q.2.b) (entsM T)
theorem RefP.keeps {F fp : Nat → Prop} {w w' : World} {r : Nat} {T : TrM} {D : List (List UInt8)} {E : List Ent} (h : RefP F w r T D E) (hK : Keeps fp w w') (hn : ∀ b, F b → ¬ fp b) : RefP F w' r T D E := by
  have hk : ∀ b, Off F r b → b < w.heap.size → Off F r b ∧ w'.heap[b]? = w.heap[b]? := fun b hb hbw => ⟨hb, hK.block b hbw (hn b hb.1)⟩
  obtain ⟨aN, cN, aD, cD, aE, cE, h1, h2, h3, h4, h8, h9, h10, h11⟩ := h.head
  exact ⟨⟨aN, cN, aD, cD, aE, cE, (hK.block r (h.low r h.own) (hn r h.own)).trans h1, h2, h3, h4, h8.move hK.size hk, h9.move hK.size hk, h10.move hK.size hk, h11⟩, h.own, fun b hb => Nat.lt_of_lt_of_le (h.low b hb) hK.size⟩
theorem RefP.below {F : Nat → Prop} {w w' : World} {B r : Nat} {T : TrM} {D : List (List UInt8)} {E : List Ent} (h : RefP F w r T D E) (hb : Below B w w') (hB : w.heap.size ≤ B) : RefP F w' r T D E :=
  h.keeps (fp := fun x => B ≤ x) (Keeps.below hb) fun x hx hf => by have := h.low x hx; omega
theorem nodeC_len (q : Int × ItM) : (nodeC q).length = 6 := rfl
theorem entC_len (e : Ent) : (entC e).length = 3 := rfl
/-- A cell of a row of rows. -/
theorem RowAt.wide {α : Type} {F : Nat → Prop} {w : World} {a : Option Addr} {n k : Nat} {f : α → List Value} {L : List α} (h : RowAt F w a (n * k) (L.flatMap f)) (hk : ∀ x, (f x).length = k) (hn : L.length = n) {i : Nat} {x : α} (hx : L[i]? = some x) (hk0 : 0 < k) :
    ∃ b off, a = some ⟨b, off, none⟩ ∧ F b ∧ b < w.heap.size ∧ i < n ∧ ∀ j, j < k → w.cell? ⟨b, off + i * k + j, none⟩ = (f x)[j]? := by
  have hi : i < n := by rw [← hn]; exact (List.getElem?_eq_some_iff.1 hx).1
  have hik : i * k + k ≤ n * k := by rw [← Nat.succ_mul]; exact Nat.mul_le_mul_right k hi
  obtain ⟨b, off, e, hF, hb, hc⟩ := h.at_ (by omega)
  refine ⟨b, off, e, hF, hb, hi, fun j hj => ?_⟩
  rw [Nat.add_assoc, hc (i * k + j) (by omega), flat_get f k hk L i j x hx hj]

section
variable {F : Nat → Prop} {r : Nat} {T : TrM} {D : List (List UInt8)} {E : List Ent}
def isAt (id : Int) (q : Int × ItM) : Bool := decide (q.1 = id)
set_option maxHeartbeats 1000000 in
theorem rat_any (id : Int) (w : World) (h : RefP F w r T D E) (hl : T.length ≤ 64) : Calls Tryz.prog 64 #[ptr r, .int .i64 id] w fun e w' => e = .returned (.int .i64 (idxI (isAt id) T)) ∧ w = w' := by
  obtain ⟨aN, cN, aD, cD, aE, cE, h1, -, -, -, hN, -, -, -⟩ := h.head
  have hr0 := h.low r h.own
  have hc0 : w.cell? ⟨r, 0, none⟩ = some (.slice aN T.length cN) := by simp [World.cell?, h1]
  have HN := Lib.hid hN
  obtain ⟨n, hn⟩ : ∃ n, n = T.length := ⟨_, rfl⟩
  rw [← hn] at hc0 hl HN
  have HL := Lib.hid hn
  clear h h1 hN hn
  go_enter Tryz.func64, Tryz.ntmps64
  go_wp2
  go_loop [5] (fun i => ∃ k : Nat, k ≤ n ∧ i = .int .i64 k ∧ (T.take k).any (isAt id) = false) (fun i => n - (intOf i).toNat)
  case atStart => exact ⟨0, by omega, rfl, by simp⟩
  case round =>
    obtain ⟨k, hk, rfl, hany⟩ := hrel
    have HA := Lib.hid hany
    clear hany
    by_cases hlt : k < n
    · have hx : T[k]? = some (T[k]'(by have := HL.out; omega)) := List.getElem?_eq_getElem _
      obtain ⟨q, hq⟩ : ∃ q, q = T[k]'(by have := HL.out; omega) := ⟨_, rfl⟩
      rw [← hq] at hx
      have HX := Lib.hid hx
      obtain ⟨b, off, rfl, hF, hb, hi, hc⟩ := HN.out.wide nodeC_len HL.out.symm hx (by omega)
      have c0 : w.cell? ⟨b, off + k * 6, none⟩ = some (.int .i64 q.1) := hc 0 (by omega)
      clear hx hq hc
      have i0 : (0 : Int) ≤ k := by omega
      have i1 : (k : Int) < n := by omega
      by_cases hp : q.1 = id
      · have hpp : (q.1 == id) = true := by simpa using hp
        have HP : Hid (isAt id q = true) := by show isAt id q = true; simp [isAt, hp]
        clear hp
        go_wp2
        go_ret
        exact ⟨ret_int (idxI_some HA.out HX.out HP.out).symm, rfl⟩
      · have hpp : (q.1 == id) = false := by simpa using hp
        have HP : Hid (isAt id q = false) := by show isAt id q = false; simp [isAt, hp]
        clear hp
        go_wp2
        go_round
        case rel => exact ⟨k + 1, by omega, by go_num, any_take_succ HA.out HX.out HP.out⟩
        case measure => simp [intOf]; omega
    · go_wp2
      go_ret
      exact ⟨ret_int (idxI_none (by have := HA.out; rwa [List.take_of_length_le (by have := HL.out; omega)] at this)).symm, rfl⟩
end
end Go.Proofs.YtbapdoicejakhaaGreat
namespace Go.Proofs.YtbapdoicejakhaaGreat
open Go.ChangeShapes Go.WideShapes Go.ChangeAt Go.RowKit
set_option linter.unusedVariables false
set_option linter.unusedSimpArgs false

theorem idx_none {T : TrM} {id : Int} (h : aget id T = none) : idxI (isAt id) T = -1 := by
  refine idxI_none ?_
  rw [List.any_eq_false]
  intro q hq
  have := aget_none.1 h q hq
  simpa [isAt] using this
theorem idx_some {T : TrM} (hs : ASorted ilt T) {id : Int} {x : ItM} (h : aget id T = some x) : ∃ k : Nat, idxI (isAt id) T = k ∧ T[k]? = some (id, x) := by
  cases hf : T.findIdx? (isAt id) with
  | none =>
    rw [List.findIdx?_eq_none_iff] at hf
    have := hf _ (aget_mem h)
    simp [isAt] at this
  | some k =>
    refine ⟨k, by simp [idxI, hf], ?_⟩
    rw [List.findIdx?_eq_some_iff_getElem] at hf
    obtain ⟨hk, hp, _⟩ := hf
    have h1 : T[k]? = some T[k] := List.getElem?_eq_getElem hk
    have h2 : T[k].1 = id := by simpa [isAt] using hp
    have h3 := aget_of_mem iltLaws hs (List.getElem_mem hk)
    rw [h2, h] at h3
    rw [h1]
    congr 1
    exact Prod.ext h2 (Option.some.inj h3).symm
def isEnt (d : Int) (n : Nm) (e : Ent) : Bool := decide (e.1 = d ∧ e.2.1 = n)
section
variable {F : Nat → Prop} {r : Nat} {T : TrM} {D : List (List UInt8)} {E : List Ent}
/-- The node's cells. -/
theorem RefP.node {w : World} (h : RefP F w r T D E) {k : Nat} {q : Int × ItM} (hq : T[k]? = some q) : ∃ b off c, w.cell? ⟨r, 0, none⟩ = some (.slice (some ⟨b, off, none⟩) T.length c) ∧ Off F r b ∧ b < w.heap.size ∧ k < T.length ∧ w.cell? ⟨b, off + k * 6, none⟩ = some (.int .i64 q.1) ∧ w.cell? ⟨b, off + k * 6 + 1, none⟩ = some (.int .i64 q.2.kind) ∧ w.cell? ⟨b, off + k * 6 + 2, none⟩ = some (.int .i64 q.2.links) ∧ w.cell? ⟨b, off + k * 6 + 3, none⟩ = some (.int .i64 q.2.b.length) ∧ w.cell? ⟨b, off + k * 6 + 4, none⟩ = some (.int .u64 q.2.til) ∧ w.cell? ⟨b, off + k * 6 + 5, none⟩ = some (.bool q.2.closed) := by
  obtain ⟨aN, cN, aD, cD, aE, cE, h1, -, -, -, hN, -, -, -⟩ := h.head
  obtain ⟨b, off, rfl, hF, hb, hi, hc⟩ := hN.wide nodeC_len rfl hq (by omega)
  exact ⟨b, off, cN, by simp [World.cell?, h1], hF, hb, hi, hc 0 (by omega), hc 1 (by omega), hc 2 (by omega), hc 3 (by omega), hc 4 (by omega), hc 5 (by omega)⟩
theorem RefP.data {w : World} (h : RefP F w r T D E) {k : Nat} {d : List UInt8} (hq : D[k]? = some d) : ∃ b off c a c', w.cell? ⟨r, 1, none⟩ = some (.slice (some ⟨b, off, none⟩) D.length c) ∧ Off F r b ∧ b < w.heap.size ∧ w.cell? ⟨b, off + k, none⟩ = some (.slice a d.length c') ∧ CapOk d.length c' ∧ RowAt (Off F r) w a d.length (d.map bv) := by
  obtain ⟨aN, cN, aD, cD, aE, cE, h1, -, -, -, -, hD, -, -⟩ := h.head
  obtain ⟨vs, hv, hrow⟩ := hD
  have hk : k < D.length := (List.getElem?_eq_some_iff.1 hq).1
  obtain ⟨b, off, rfl, hF, hb, hc⟩ := hv.at_ (by omega)
  obtain ⟨a, c', h3, h4, h5⟩ := hrow k d hq
  exact ⟨b, off, cD, a, c', by simp [World.cell?, h1], hF, hb, by rw [hc k hk]; exact h3, h4, h5⟩
theorem RefP.ent {w : World} (h : RefP F w r T D E) : ∃ a c, w.cell? ⟨r, 2, none⟩ = some (.slice a E.length c) ∧ E.length ≤ c ∧ RowAt (Off F r) w a (E.length * 3) (E.flatMap entC) ∧ Base a c := by
  obtain ⟨aN, cN, aD, cD, aE, cE, h1, -, -, h4, -, -, hE, hz⟩ := h.head
  exact ⟨aE, cE, by simp [World.cell?, h1], h4, hE, hz⟩
theorem RefP.nodes {w : World} (h : RefP F w r T D E) : ∃ a c, w.cell? ⟨r, 0, none⟩ = some (.slice a T.length c) ∧ T.length ≤ c := by
  obtain ⟨aN, cN, aD, cD, aE, cE, h1, h4, -, -, -, -, -, -⟩ := h.head
  exact ⟨aN, cN, by simp [World.cell?, h1], h4⟩
set_option maxHeartbeats 1000000 in
theorem rnode_any (id : Int) (w : World) (h : RefP F w r T D E) (hT : OkP T) : Calls Tryz.prog 52 #[ptr r, .int .i64 id] w fun e w' => e = .returned (.tuple #[nodeM T id, .bool (aget id T).isSome]) ∧ Below w.heap.size w w' := by
  have hlen := hT.len
  have HR := Lib.hid (fun o => rat_any id (w.alloc o) (h.below (wall w o) (Nat.le_refl _)) hlen)
  have hr0 := h.low r h.own
  unfold nodeM
  cases hx : aget id T with
  | none =>
    rw [idx_none hx] at HR
    clear h hx hT
    go_enter Tryz.func52, Tryz.ntmps52
    go_wp2_with fail
    (with_reducible refine (HR.out _).mono ?_)
    rintro e w1 ⟨rfl, rfl⟩
    go_wp2_with fail
    exact bodyPost_ret (v := .tuple #[.agg #[.int .i64 0, .int .i64 0, .int .i64 0, .int .i64 0, .int .u64 0, .bool false], .bool false]) (by simp [results, Tryz.results52, go_sem]) rfl ⟨rfl, wall w _⟩
  | some x =>
    obtain ⟨k, hk, hq⟩ := idx_some hT.sorted hx
    rw [hk] at HR
    obtain ⟨b, off, c, hc0, hF, hb, hkl, c0, c1, c2, c3, c4, c5⟩ := h.node hq
    have i0 : (0 : Int) ≤ k := by omega
    have i1 : (k : Int) < T.length := by omega
    have i2 : ¬ (k : Int) < 0 := by omega
    simp only at c0 c1 c2 c3 c4 c5
    clear h hx hk hq hT
    unfold nodeV
    go_enter Tryz.func52, Tryz.ntmps52
    go_wp2_with fail
    (with_reducible refine (HR.out _).mono ?_)
    rintro e w1 ⟨rfl, rfl⟩
    go_wp2_with fail
    exact bodyPost_ret (v := .tuple #[.agg #[.int .i64 id, .int .i64 x.kind, .int .i64 x.links, .int .i64 x.b.length, .int .u64 x.til, .bool x.closed], .bool true]) (by simp [results, Tryz.results52, go_sem]) rfl ⟨rfl, wall w _⟩
set_option maxHeartbeats 1000000 in
theorem rentry_any (d : Int) (nm : Nm) (w : World) (h : RefP F w r T D E) (hl : E.length ≤ 1000000) : Calls Tryz.prog 63 #[ptr r, .int .i64 d, .string (strOf nm)] w fun e w' => e = .returned (.int .i64 (idxI (isEnt d nm) E)) ∧ w = w' := by
  obtain ⟨aE, cE, hc0, -, hE, -⟩ := h.ent
  have hr0 := h.low r h.own
  have HN := Lib.hid hE
  obtain ⟨n, hn⟩ : ∃ n, n = E.length := ⟨_, rfl⟩
  rw [← hn] at hc0 hl HN
  have HL := Lib.hid hn
  clear h hE hn
  go_enter Tryz.func63, Tryz.ntmps63
  go_wp2
  go_loop [7] (fun i => ∃ k : Nat, k ≤ n ∧ i = .int .i64 k ∧ (E.take k).any (isEnt d nm) = false) (fun i => n - (intOf i).toNat)
  case atStart => exact ⟨0, by omega, rfl, by simp⟩
  case round =>
    obtain ⟨k, hk, rfl, hany⟩ := hrel
    have HA := Lib.hid hany
    clear hany
    by_cases hlt : k < n
    · have hx : E[k]? = some (E[k]'(by have := HL.out; omega)) := List.getElem?_eq_getElem _
      obtain ⟨q, hq⟩ : ∃ q, q = E[k]'(by have := HL.out; omega) := ⟨_, rfl⟩
      rw [← hq] at hx
      have HX := Lib.hid hx
      obtain ⟨b, off, rfl, hF, hb, hi, hc⟩ := HN.out.wide entC_len HL.out.symm hx (by omega)
      have c0 : w.cell? ⟨b, off + k * 3, none⟩ = some (.int .i64 q.1) := hc 0 (by omega)
      have c1 : w.cell? ⟨b, off + k * 3 + 1, none⟩ = some (.string (strOf q.2.1)) := hc 1 (by omega)
      clear hx hq hc
      have i0 : (0 : Int) ≤ k := by omega
      have i1 : (k : Int) < n := by omega
      by_cases hp : q.1 = d
      · have hpp : (q.1 == d) = true := by simpa using hp
        by_cases hp2 : q.2.1 = nm
        · have HP : Hid (isEnt d nm q = true) := by show isEnt d nm q = true; simp [isEnt, hp, hp2]
          rw [hp2] at c1
          clear hp hp2
          go_wp2
          go_ret
          exact ⟨ret_int (idxI_some HA.out HX.out HP.out).symm, rfl⟩
        · have HP : Hid (isEnt d nm q = false) := by show isEnt d nm q = false; simp [isEnt, hp, hp2]
          obtain ⟨hs1, hs2⟩ := strOf_ne hp2
          clear hp hp2
          go_wp2
          go_round
          case rel => exact ⟨k + 1, by omega, by go_num, any_take_succ HA.out HX.out HP.out⟩
          case measure => simp [intOf]; omega
      · have hpp : (q.1 == d) = false := by simpa using hp
        have HP : Hid (isEnt d nm q = false) := by show isEnt d nm q = false; simp [isEnt, hp]
        clear hp
        go_wp2
        go_round
        case rel => exact ⟨k + 1, by omega, by go_num, any_take_succ HA.out HX.out HP.out⟩
        case measure => simp [intOf]; omega
    · go_wp2
      go_ret
      exact ⟨ret_int (idxI_none (by have := HA.out; rwa [List.take_of_length_le (by have := HL.out; omega)] at this)).symm, rfl⟩
end
end Go.Proofs.YtbapdoicejakhaaGreat
namespace Go.Proofs.YtbapdoicejakhaaGreat
open Go.ChangeShapes Go.WideShapes Go.ChangeAt Go.RowKit
set_option linter.unusedVariables false

theorem getElem_ne_of {α : Type} {l l' : List α} {k : Nat} {x y : α} (hx : l[k]? = some x) (hy : l'[k]? = some y) (h : x ≠ y) : l ≠ l' := by
  intro e; rw [e, hy] at hx; exact h (Option.some.inj hx).symm
theorem take_succ_eq {α : Type} {l l' : List α} {k : Nat} {x : α} (h : l.take k = l'.take k) (hx : l[k]? = some x) (hy : l'[k]? = some x) : l.take (k + 1) = l'.take (k + 1) := by
  rw [List.take_add_one, List.take_add_one, h, hx, hy]
theorem toList_ne {x y : ByteArray} (h : x ≠ y) : (x.toList == y.toList) = false := by
  rw [beq_eq_false_iff_ne, ByteArray.toList_eq, ByteArray.toList_eq]
  intro e
  exact h (WideShapes.bytes_inj e)
theorem idx_byte (s : ByteArray) (k : Nat) (h : k < s.size) : s[k] = s.data.toList.getD k 0 := by
  have h2 : k < s.data.toList.length := by simpa using h
  simp only [List.getD, List.getElem?_eq_getElem h2, Option.getD_some]
  rfl
set_option maxHeartbeats 1000000 in
theorem rgood_any (s : ByteArray) (w : World) (hs : s.size ≤ maxLen) :
    Calls Tryz.prog 108 #[.string s] w fun e w' => e = .returned (.bool (goodL s.data.toList)) ∧ Below w.heap.size w w' := by
  unfold maxLen at hs
  have hb := Below.refl w.heap.size w
  go_enter Tryz.func108, Tryz.ntmps108
  go_wp2
  go_loop [3] (fun i => ∃ k : Nat, k ≤ s.size ∧ i = .int .i64 k ∧ (s.data.toList.take k).all okByte = true) (fun i => s.size - (intOf i).toNat)
  case atStart => exact ⟨0, by omega, rfl, rfl⟩
  case round =>
    obtain ⟨k, hk, rfl, ha⟩ := hrel
    have HA := Lib.hid ha
    clear ha
    by_cases hlt : k < s.size
    · obtain ⟨c, hcc⟩ : ∃ c, c = s.data.toList.getD k 0 := ⟨_, rfl⟩
      have hix := idx_byte s k hlt
      rw [← hcc] at hix
      have hsn := take_all okByte s.data.toList k (by simpa using hlt)
      rw [← hcc] at hsn
      have HS := Lib.hid hsn
      have HG : Hid (okByte c = false → goodL s.data.toList = false) := fun h => by
        have := all_take okByte s.data.toList k (by simpa using hlt)
        rw [← hcc] at this
        simp [goodL, this h]
      clear hsn hcc
      have hbd := byte_bd c
      rcases ok_ways c with ⟨ho, h1, h2⟩ | ⟨ho, h1, h2, h3⟩ | ⟨ho, h1⟩ | ⟨ho, h1⟩ | ⟨ho, h1⟩ | ⟨ho, h1, h2, h3, h4, h5, h6⟩ | ⟨ho, h1, h2, h3, h4, h5, h6⟩ | ⟨ho, h1, h2, h3, h4, h5⟩
      iterate 5
        · have HO := Lib.hid ho
          clear ho HG
          go_wp2
          go_round
          case rel => exact ⟨k + 1, by omega, by go_num, by rw [HS.out, HA.out, HO.out]; rfl⟩
          case measure => simp [intOf]; omega
      iterate 3
        · have HO := Lib.hid ho
          clear ho
          go_wp2
          go_ret
          exact ⟨ret_bool (HG.out HO.out).symm, hb⟩
    · have hk' : k = s.size := by omega
      have HA2 : s.data.toList.all okByte = true := by
        have := HA.out
        rw [hk', List.take_of_length_le (by simp)] at this
        exact this
      have hl : s.data.toList.length = s.size := by simp
      have he := ByteArray.toList_eq s
      have ways : (s.toList = [] ∧ s.toList.isEmpty = true ∧ goodL s.data.toList = false) ∨
          (¬ s.toList = [] ∧ s.toList.isEmpty = false ∧ 16 < s.size ∧ goodL s.data.toList = false) ∨
          (¬ s.toList = [] ∧ s.toList.isEmpty = false ∧ s.size ≤ 16 ∧ s.toList = [46] ∧ (s.toList == [46]) = true ∧ goodL s.data.toList = false) ∨
          (¬ s.toList = [] ∧ s.toList.isEmpty = false ∧ s.size ≤ 16 ∧ ¬ s.toList = [46] ∧ (s.toList == [46]) = false ∧ s.toList = [46, 46] ∧ (s.toList == [46, 46]) = true ∧ goodL s.data.toList = false) ∨
          (¬ s.toList = [] ∧ s.toList.isEmpty = false ∧ s.size ≤ 16 ∧ ¬ s.toList = [46] ∧ (s.toList == [46]) = false ∧ ¬ s.toList = [46, 46] ∧ (s.toList == [46, 46]) = false ∧ goodL s.data.toList = true) := by
        rw [he]
        generalize s.data.toList = l at HA2 hl
        rw [← hl]
        exact good_ways l HA2
      have hz1 : Hid (s.toList = [] → s.size < 1) := fun h => by rw [he] at h; rw [h] at hl; simp at hl; omega
      have hz2 : Hid (¬ s.toList = [] → 1 ≤ s.size) := fun h => by
        rw [he] at h
        have := List.length_pos_iff.2 h
        omega
      clear HA2 hl he HA hk'
      rcases ways with ⟨h1, h2, hg⟩ | ⟨h1, h2, h3, hg⟩ | ⟨h1, h2, h3, h4, h5, hg⟩ | ⟨h1, h2, h3, h4, h5, h6, h7, hg⟩ | ⟨h1, h2, h3, h4, h5, h6, h7, hg⟩
      · have hz := hz1.out h1
        have HG := Lib.hid hg
        clear hg
        go_wp2
        go_ret
        exact ⟨ret_bool HG.out.symm, hb⟩
      all_goals
        have hz := hz2.out h1
        have HG := Lib.hid hg
        clear hg
        go_wp2
        go_ret
        exact ⟨ret_bool HG.out.symm, hb⟩
theorem rwithin_any {S S' : Nat → Prop} (a a' : Option Addr) (len cap len' cap' : Nat) (ss ss' : List ByteArray) (w : World) (h : StrsAt S w a len ss) (h' : StrsAt S' w a' len' ss') :
    Calls Tryz.prog 125 #[.slice a len cap, .slice a' len' cap'] w fun e w' => e = .returned (.bool (withinB ss ss')) ∧ Below w.heap.size w w' := by
  have hl := h.length
  have hl' := h'.length
  have hm := h.row.small
  have hm' := h'.row.small
  unfold maxLen at hm hm'
  by_cases hle : len' ≤ len
  · have HL := Lib.hid hl
    have HL' := Lib.hid hl'
    clear hl hl'
    go_enter Tryz.func125, Tryz.ntmps125
    go_wp2
    go_loopw [5] (fun i wr => ∃ k : Nat, k ≤ len' ∧ i = .int .i64 k ∧ ss.take k = ss'.take k ∧ Below w.heap.size w wr) (fun i _ => len' - (intOf i).toNat)
    case atStart => exact ⟨0, by omega, rfl, rfl, Below.refl _ _⟩
    case round =>
      obtain ⟨k, hk, rfl, ht, hb⟩ := hrel
      have HT := Lib.hid ht
      clear ht
      by_cases hlt : k < len'
      · obtain ⟨b, off, x, rfl, _, _, hx, _, hc⟩ := (h.below hb (Nat.le_refl _)).cell k (by omega)
        obtain ⟨b', off', y, rfl, _, _, hy, _, hc'⟩ := (h'.below hb (Nat.le_refl _)).cell k hlt
        have HX := Lib.hid hx
        have HY := Lib.hid hy
        clear hx hy h h'
        have hk0 : (0 : Int) ≤ (k : Int) := by omega
        have hk1 : (k : Int) < (len : Int) := by omega
        have hk2 : (k : Int) < (len' : Int) := by omega
        by_cases hxy : x = y
        · subst hxy
          go_wp2
          go_quiet (fail)
          go_wp2
          go_roundw
          case rel => exact ⟨k + 1, by omega, by go_num, take_succ_eq HT.out HX.out HY.out, hb.trans ⟨rfl, rfl, rfl, Nat.le_refl _, fun _ _ => rfl⟩⟩
          case measure => simp [intOf]; omega
        · have hxl := toList_ne hxy
          have HN := Lib.hid hxy
          clear hxy
          go_wp2
          go_quiet (fail)
          go_wp2
          go_ret
          refine ⟨ret_bool ?_, hb.trans ⟨rfl, rfl, rfl, Nat.le_refl _, fun _ _ => rfl⟩⟩
          symm
          unfold withinB
          rw [decide_eq_false_iff_not]
          refine getElem_ne_of (k := k) ?_ HY.out HN.out
          rw [List.getElem?_take, if_pos (by have := HL'.out; omega)]
          exact HX.out
      · have hk' : k = len' := by omega
        have HK := Lib.hid hk'
        clear hk'
        go_wp2
        go_ret
        refine ⟨ret_bool ?_, hb⟩
        have := HT.out
        rw [HK.out] at this
        unfold withinB
        rw [HL'.out, this, List.take_of_length_le (by have := HL'.out; omega)]
        simp
  · have hp : withinB ss ss' = false := by
      unfold withinB
      rw [decide_eq_false_iff_not]
      intro hh
      have := congrArg List.length hh
      simp at this
      omega
    have HP := Lib.hid hp
    clear hp hl hl'
    go_enter Tryz.func125, Tryz.ntmps125
    go_wp2
    go_ret
    exact ⟨ret_bool HP.out.symm, Below.refl _ _⟩
end Go.Proofs.YtbapdoicejakhaaGreat
