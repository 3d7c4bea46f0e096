/- Arguments opened: slices of bytes, of truths, of structs. The lemma open_slice_fields is the guide's own (extra-structs). Arguments opened: lists of permafrostlaw13.Ask. WormLives: the tree of a few files, and what lives in it. SnapForgets: the tree of a few closed files. Arguments that are slices of times, and of truths, opened. Literal slices of texts. -/
import Derived.Test.YtpgklnhkfgbpgaaGreatM03
import Derived.Deep.Slices
import Derived.Deep.Fields
import Derived.Deep.Grids
import Derived.ChangeSame
import Derived.Lib.SmallJoins
import Derived.Test.YtpgklnhkfgbpgaaGreatM29
import Derived.Test.YtpgklnhkfgbpgaaGreatM31
import Derived.Test.YtpgklnhkfgbpgaaGreatM14
import Derived.Test.YtpgklnhkfgbpgaaGreatM12
namespace Go.Proofs.YtpgklnhkfgbpgaaGreat
open Go.Joins Go.ChangeShapes Go.WideShapes Go.ChangeAt Go.RowKit Go.Deep
set_option linter.unusedVariables false
section
variable {H : Type} {enc : TypeId × Value → H} {P : Program} {w : World} {base : Nat} {spare : Nat → Bool} {held : Bool}
theorem open_slice_fields {t e : TypeId} {fs : Array Field} {fuel : Nat} {cs : List Value} {x : DataW H × List MemPlace} (ht : P.underlying t = some (.slice e)) (he : P.underlying e = some (.struct fs))
    (hone : oneCellFields P fs = true) (hC : P.cellsOf e = fs.size) (h : DataW.trod enc P w base spare held fuel t cs = some x) :
    (cs = [.slice none 0 0] ∧ x = (.nil, [])) ∨
    ∃ (a : Addr) (len cap m : Nat) (D : Nat → DataW H) (Pl : Nat → List MemPlace), cs = [.slice (some a) len cap] ∧ base ≤ a.block ∧ len ≤ cap ∧ cap ≤ maxLen ∧ m = (if spare a.block then cap else len) ∧
      x = (.slice ((List.range len).map D) ((List.range (m - len)).map fun j => D (len + j)), MemPlace.row a (m * fs.size) ++ (List.range m).flatMap Pl) ∧
      ∀ i, i < m → ∃ (ys : List (DataW H × List MemPlace)) (n : Nat), D i = .agg (ys.map (·.1)) ∧ Pl i = ys.flatMap (·.2) ∧ ys.length = fs.size ∧
        ∀ (j : Nat) (f : Field), fs[j]? = some f → ∃ (v : Value) (y : DataW H × List MemPlace), w.cell? (a.add (i * fs.size + j)) = some v ∧ ys[j]? = some y ∧ DataW.trod enc P w base spare held n f.type [v] = some y := by
  rcases open_slice ht h with h0 | ⟨a, len, cap, m, n, D, Pl, hcs, hb, hl, hm, hmm, hx, hi⟩
  · exact .inl h0
  · refine .inr ⟨a, len, cap, m, D, Pl, hcs, hb, hl, hm, hmm, by rw [hC] at hx; exact hx, fun i him => ?_⟩
    obtain ⟨cs', hc, ht'⟩ := hi i him
    rw [hC] at hc
    obtain ⟨ys, n', hn', hy, hlen, hyl, hf⟩ := DataW.trod_struct he ht'
    obtain ⟨_, hcl, hat⟩ := World.cells?_some hc
    simp only [Prod.mk.injEq] at hy
    refine ⟨ys, n', hy.1, hy.2, hyl, fun j f hj => ?_⟩
    obtain ⟨ho, hk⟩ := hone_of hone j f hj
    have hjl : j < fs.size := (Array.getElem?_eq_some_iff.1 hj).1
    have hcell := hat j hjl
    have hv : cs'[j]? = some (cs'[j]'(by omega)) := List.getElem?_eq_getElem (by omega)
    have h1 := hf j f hj
    rw [ho, hk] at h1
    have hone' : (cs'.drop j).take 1 = [cs'[j]'(by omega)] := by
      rw [List.drop_eq_getElem_cons (by omega)]
      rfl
    rw [hone'] at h1
    have hys : ys[j]? = some (ys[j]'(by omega)) := List.getElem?_eq_getElem (by omega)
    refine ⟨_, _, ?_, hys, h1.trans hys⟩
    rw [← Go.Deep.add_add, hcell, hv]
end

section
variable {H : Type} {enc : TypeId × Value → H} {W : World}
def byteOf (z : Int) : UInt8 := UInt8.ofNat z.toNat
theorem bv_byteOf {z : Int} (h : (Lit.int .u8 z).wf = true) : bv (byteOf z) = .int .u8 z := by
  simp [Lit.wf, IntKind.min, IntKind.max, IntKind.signed, IntKind.bits] at h
  unfold bv byteOf
  rw [UInt8.toNat_ofNat']
  congr 1
  omega
/-- What is the world's own. -/
abbrev Old (W : World) (x : Nat) : Prop := x < W.heap.size

theorem open_bytesT {fuel : Nat} {v : Value} {x : DataW H × List MemPlace} (h : DataW.trod enc Tryz.prog W 0 (fun _ => true) true fuel 25 [v] = some x) (l : ∀ p ∈ x.2, p.block < W.heap.size) :
    ∃ a len cap bs, v = .slice a len cap ∧ len ≤ cap ∧ RowAt (Old W) W a len ((bs : List UInt8).map bv) := by
  rcases open_ints Tryz.underlying25 Tryz.underlying5 (by kernel_rfl) h with ⟨hcs, hx⟩ | ⟨a, len, cap, zs, hcs, _, hl, hm, hz, hx, hcell, hwz⟩
  · simp only [List.cons.injEq, and_true] at hcs
    subst hcs
    exact ⟨none, 0, 0, [], rfl, Nat.le_refl _, RowAt.nil _ _ _⟩
  · simp only [List.cons.injEq, and_true] at hcs
    subst hcs
    subst hx
    simp only [if_true] at hz
    refine ⟨some a, len, cap, (zs.take len).map byteOf, rfl, hl, by simp; omega, by omega, fun h0 => ?_⟩
    obtain ⟨b, off, spot⟩ := a
    have hspot : spot = none := by simpa [Addr.add] using World.cell?_spot (hcell 0 (by omega))
    subst hspot
    have hb : b < W.heap.size := l (.cell b off) (MemPlace.mem_row.2 ⟨0, by omega, by simp⟩)
    refine ⟨b, off, rfl, hb, hb, fun i hi => ?_⟩
    have h1 := hcell i (by omega)
    rw [add_plain] at h1
    have hi' : i < zs.length := by omega
    rw [h1, List.map_map, List.getElem?_map, List.getElem?_take, if_pos hi, List.getElem?_eq_getElem hi']
    simp only [Option.map_some, Function.comp, List.getD, List.getElem?_eq_getElem hi', Option.getD_some]
    rw [bv_byteOf (hwz _ (List.getElem_mem hi'))]
end

section
variable {H : Type} {P : Program}
theorem weightsAll_mem {e : TypeId} : ∀ {l : List (DataW H)} {d : DataW H}, d ∈ l → ∀ n ∈ d.weights P e, n ∈ DataW.weightsAll P e l
  | x :: r, d, h, n, hn => by
    rcases List.mem_cons.1 h with rfl | h
    · exact List.mem_append_left _ hn
    · exact List.mem_append_right _ (weightsAll_mem h n hn)
theorem weightsEach_at : ∀ {ts : List TypeId} {ds : List (DataW H)} {j : Nat} {t : TypeId} {d : DataW H}, ts[j]? = some t → ds[j]? = some d → ∀ n ∈ d.weights P t, n ∈ DataW.weightsEach P ts ds
  | t' :: ts, d' :: ds, 0, t, d, ht, hd, n, hn => by
    simp only [List.getElem?_cons_zero, Option.some.injEq] at ht hd
    subst ht hd
    exact List.mem_append_left _ hn
  | t' :: ts, d' :: ds, j + 1, t, d, ht, hd, n, hn => by
    simp only [List.getElem?_cons_succ] at ht hd
    exact List.mem_append_right _ (weightsEach_at ht hd n hn)
  | [], _, _, _, _, ht, _, _, _ => by simp at ht
  | _ :: _, [], _, _, _, _, hd, _, _ => by simp at hd
theorem weights_head {t e : TypeId} (ht : P.underlying t = some (.slice e)) (elems rest : List (DataW H)) : (elems.length + rest.length) * P.bytesOf e ∈ (DataW.slice elems rest).weights P t := by
  unfold DataW.weights
  rw [ht]
  exact List.mem_cons_self
theorem weights_elem {t e : TypeId} (ht : P.underlying t = some (.slice e)) {elems rest : List (DataW H)} {d : DataW H} (hd : d ∈ elems) {n : Nat} (hn : n ∈ d.weights P e) : n ∈ (DataW.slice elems rest).weights P t := by
  unfold DataW.weights
  rw [ht]
  exact List.mem_cons_of_mem _ (List.mem_append_left _ (weightsAll_mem hd n hn))
theorem weights_part {t : TypeId} {fs : Array Field} (ht : P.underlying t = some (.struct fs)) {parts : List (DataW H)} {j : Nat} {f : Field} {d : DataW H} (hf : fs[j]? = some f) (hd : parts[j]? = some d) {n : Nat} (hn : n ∈ d.weights P f.type) : n ∈ (DataW.agg parts).weights P t := by
  unfold DataW.weights
  rw [ht]
  refine weightsEach_at (j := j) (t := f.type) (d := d) ?_ hd n hn
  rw [List.getElem?_map, Array.getElem?_toList, hf]
  rfl
end
section
variable {H : Type} {enc : TypeId × Value → H} {W : World}
theorem bytes8 : Tryz.prog.bytesOf 5 = 1 := by kernel_rfl
/-- .. within the reach. -/
theorem open_bytesW {fuel : Nat} {v : Value} {x : DataW H × List MemPlace} (h : DataW.trod enc Tryz.prog W 0 (fun _ => true) true fuel 25 [v] = some x) (l : ∀ p ∈ x.2, p.block < W.heap.size) (hw : ∀ n ∈ x.1.weights Tryz.prog 25, n ≤ reachBytes) :
    ∃ a len cap bs, v = .slice a len cap ∧ len ≤ cap ∧ RowAt (Old W) W a len ((bs : List UInt8).map bv) ∧ len ≤ 140737488351232 := by
  obtain ⟨a, len, cap, bs, rfl, hlc, hr⟩ := open_bytesT h l
  refine ⟨a, len, cap, bs, rfl, hlc, hr, ?_⟩
  rcases open_ints Tryz.underlying25 Tryz.underlying5 (by kernel_rfl) h with ⟨hcs, hx⟩ | ⟨a', len', cap', zs, hcs, _, hl, hm, hz, hx, _, _⟩
  · simp only [List.cons.injEq, and_true, Value.slice.injEq] at hcs
    obtain ⟨_, rfl, _⟩ := hcs
    omega
  · simp only [List.cons.injEq, and_true, Value.slice.injEq] at hcs
    obtain ⟨_, rfl, _⟩ := hcs
    subst hx
    have h1 := hw _ (weights_head Tryz.underlying25 _ _)
    rw [bytes8] at h1
    simp only [if_true] at hz
    unfold lits at h1
    simp only [List.length_map, List.length_take, List.length_drop] at h1
    unfold reachBytes at h1
    omega
end
end Go.Proofs.YtpgklnhkfgbpgaaGreat
namespace Go.Proofs.YtpgklnhkfgbpgaaGreat
open Go.Joins Go.ChangeShapes Go.WideShapes Go.ChangeAt Go.RowKit Go.Deep
set_option linter.unusedVariables false
structure AskN where
  kind : Int
  P : Int
  id : Int
  b : List UInt8
  til : Int
/-- The five cells of an Ask. -/
structure AskNAt (W : World) (g off : Nat) (x : AskN) (ba : Option Addr) (bn bc : Nat) : Prop where
  cells : W.cell? ⟨g, off, none⟩ = some (.int .i64 x.kind) ∧ W.cell? ⟨g, off + 1, none⟩ = some (.int .i64 x.P) ∧ W.cell? ⟨g, off + 2, none⟩ = some (.int .i64 x.id) ∧ W.cell? ⟨g, off + 3, none⟩ = some (.slice ba bn bc) ∧ W.cell? ⟨g, off + 4, none⟩ = some (.int .u64 x.til)
  wk : (Lit.int .i64 x.kind).wf = true
  wp : (Lit.int .i64 x.P).wf = true
  wi : (Lit.int .i64 x.id).wf = true
  wu : 0 ≤ x.til ∧ x.til ≤ 18446744073709551615
  cap : bn ≤ bc
  row : RowAt (fun b => b < W.heap.size) W ba bn (x.b.map bv)
  reach : bn ≤ 140737488351232
def AsksN (W : World) (a : Option Addr) (len : Nat) : Prop :=
  len ≤ maxLen ∧ (0 < len → ∃ b off, a = some ⟨b, off, none⟩ ∧ b < W.heap.size ∧ ∀ k, k < len → ∃ x ba bn bc, AskNAt W b (off + k * 5) x ba bn bc)
theorem u64_of_wf {z : Int} (h : (Lit.int .u64 z).wf = true) : 0 ≤ z ∧ z ≤ 18446744073709551615 := by
  simp [Lit.wf, IntKind.min, IntKind.max, IntKind.signed, IntKind.bits] at h
  omega
section
variable {H : Type} {enc : TypeId × Value → H} {W : World}
theorem open_asks13 {fuel : Nat} {v : Value} {x : DataW H × List MemPlace} (h : DataW.trod enc Tryz.prog W 0 (fun _ => true) true fuel 22 [v] = some x) (l : ∀ p ∈ x.2, p.block < W.heap.size) (hw : ∀ n ∈ x.1.weights Tryz.prog 22, n ≤ reachBytes) :
    ∃ a len cap, v = .slice a len cap ∧ len ≤ cap ∧ AsksN W a len := by
  rcases open_slice_fields Tryz.underlying22 Tryz.underlying28 (by kernel_rfl) (by kernel_rfl) h with ⟨hcs, hx⟩ | ⟨a, len, cap, m, D, Pl, hcs, _, hl, hm, hmm, hx, hi⟩
  · simp only [List.cons.injEq, and_true] at hcs
    subst hcs
    exact ⟨none, 0, 0, rfl, Nat.le_refl _, by simp, fun h => by omega⟩
  · simp only [List.cons.injEq, and_true] at hcs
    subst hcs
    subst hx
    simp only [if_true] at hmm
    subst hmm
    refine ⟨some a, len, m, rfl, hl, by omega, fun h0 => ?_⟩
    have hsub : ∀ (i : Nat) (ys : List (DataW H × List MemPlace)) (j : Nat) (y : DataW H × List MemPlace), i < m → Pl i = ys.flatMap (·.2) → ys[j]? = some y → ∀ p ∈ y.2, p.block < W.heap.size := by
      intro i ys j y hi' hp hy p hpy
      refine l p (List.mem_append_right _ (List.mem_flatMap.2 ⟨i, List.mem_range.2 hi', ?_⟩))
      rw [hp]
      exact List.mem_flatMap.2 ⟨y, List.mem_of_getElem? hy, hpy⟩
    obtain ⟨b, off, spot⟩ := a
    have hspot : spot = none := by
      obtain ⟨ys, n, _, _, _, hf⟩ := hi 0 (by omega)
      obtain ⟨v, y, hc, _⟩ := hf 0 _ rfl
      simpa [Addr.add] using World.cell?_spot hc
    subst hspot
    have hb : b < W.heap.size := l (.cell b off) (List.mem_append_left _ (MemPlace.mem_row.2 ⟨0, by simp; omega, by simp⟩))
    refine ⟨b, off, rfl, hb, fun k hk => ?_⟩
    obtain ⟨ys, n, hD, hP, hyl, hf⟩ := hi k (by omega)
    obtain ⟨v0, y0, c0, e0, t0⟩ := hf 0 _ rfl
    obtain ⟨v1, y1, c1, e1, t1⟩ := hf 1 _ rfl
    obtain ⟨v2, y2, c2, e2, t2⟩ := hf 2 _ rfl
    obtain ⟨v3, y3, c3, e3, t3⟩ := hf 3 _ rfl
    obtain ⟨v4, y4, c4, e4, t4⟩ := hf 4 _ rfl
    obtain ⟨z0, f0, _, g0⟩ := DataW.trod_int Tryz.underlying3 t0
    obtain ⟨z1, f1, _, g1⟩ := DataW.trod_int Tryz.underlying3 t1
    obtain ⟨z2, f2, _, g2⟩ := DataW.trod_int Tryz.underlying3 t2
    obtain ⟨a7, n7, k7, bs, rfl, q7, r7, r7w⟩ := open_bytesW t3 (hsub k ys 3 y3 (by omega) hP e3) (fun n hn => hw n (weights_elem Tryz.underlying22 (d := D k) (List.mem_map.2 ⟨k, List.mem_range.2 hk, rfl⟩) (by
      rw [hD]
      exact weights_part Tryz.underlying28 (j := 3) rfl (d := y3.1) (by rw [List.getElem?_map, e3]; rfl) hn)))
    obtain ⟨z4, f4, _, g4⟩ := DataW.trod_int Tryz.underlying26 t4
    simp only [List.cons.injEq, and_true] at f0 f1 f2 f4
    subst f0 f1 f2 f4
    rw [add_plain] at c0 c1 c2 c3 c4
    refine ⟨⟨z0, z1, z2, bs, z4⟩, a7, n7, k7, ⟨⟨c0, ?_, ?_, ?_, ?_⟩, g0, g1, g2, u64_of_wf g4, q7, r7, r7w⟩⟩
    · rw [Nat.add_assoc]; exact c1
    · rw [Nat.add_assoc]; exact c2
    · rw [Nat.add_assoc]; exact c3
    · rw [Nat.add_assoc]; exact c4
end
end Go.Proofs.YtpgklnhkfgbpgaaGreat
namespace Go.Proofs.YtpgklnhkfgbpgaaGreat
open Go.ChangeShapes Go.WideShapes Go.ChangeAt Go.RowKit
set_option linter.unusedVariables false
set_option linter.unusedSimpArgs false

def lvI : Option Int → ItM
  | none => freshM 1
  | some t => ⟨1, 1, t, true, [], []⟩
def itemsL : Int → List (Option Int) → TrM
  | _, [] => []
  | i, p :: r => (i, lvI p) :: itemsL (i + 1) r
def fname (k : Nat) : Nm := [102, UInt8.ofNat (97 + k)]
def nmsL : Nat → List (Nm × Int)
  | 0 => []
  | k + 1 => nmsL k ++ [(fname k, (k : Int) + 1)]
def rootL (k : Nat) : ItM := { freshM 2 with names := nmsL k }
def stL (ps : List (Option Int)) : TrM := (0, rootL ps.length) :: itemsL 1 ps

theorem ains_end {κ α : Type} (lt : κ → κ → Bool) (x : κ × α) : ∀ l : List (κ × α), (∀ p ∈ l, lt x.1 p.1 = false) → ains lt x l = l ++ [x]
  | [], _ => rfl
  | y :: r, h => by
    unfold ains
    rw [h y (by simp), if_neg (by simp), ains_end lt x r (fun p hp => h p (by simp [hp]))]
    rfl
theorem itemsL_append (p : Option Int) : ∀ (ps : List (Option Int)) (i : Int), itemsL i (ps ++ [p]) = itemsL i ps ++ [(i + ps.length, lvI p)]
  | [], i => by simp [itemsL]
  | q :: r, i => by
    simp only [List.cons_append, itemsL, itemsL_append p r (i + 1), List.length_cons]
    rw [show i + 1 + (r.length : Int) = i + ((r.length + 1 : Nat) : Int) by omega]
theorem itemsL_keys : ∀ (ps : List (Option Int)) (i : Int) (q : Int × ItM), q ∈ itemsL i ps → i ≤ q.1 ∧ q.1 < i + ps.length
  | [], i, q, h => by cases h
  | p :: r, i, q, h => by
    simp only [itemsL] at h
    rcases List.mem_cons.1 h with rfl | h
    · simp; omega
    · have := itemsL_keys r (i + 1) q h
      simp only [List.length_cons]
      omega
theorem itemsL_get : ∀ (ps : List (Option Int)) (i : Int) (j : Nat), aget (i + j) (itemsL i ps) = (ps[j]?).map lvI
  | [], i, j => by simp [itemsL, aget]
  | p :: r, i, 0 => by simp [itemsL, aget]
  | p :: r, i, j + 1 => by
    simp only [itemsL]
    rw [aget_cons, if_neg (by omega), List.getElem?_cons_succ, ← itemsL_get r (i + 1) j]
    congr 1
    omega
theorem itemsL_sorted : ∀ (ps : List (Option Int)) (i : Int), ASorted ilt (itemsL i ps)
  | [], i => by simp [itemsL, ASorted]
  | p :: r, i => by
    simp only [itemsL]
    refine List.pairwise_cons.2 ⟨fun q hq => ?_, itemsL_sorted r (i + 1)⟩
    have := itemsL_keys r (i + 1) q hq
    simp; omega
theorem stL_sorted (ps : List (Option Int)) : ASorted ilt (stL ps) := by
  refine List.pairwise_cons.2 ⟨fun q hq => ?_, itemsL_sorted ps 1⟩
  have := itemsL_keys ps 1 q hq
  simp; omega
theorem stL_get (ps : List (Option Int)) (j : Nat) : aget ((j : Int) + 1) (stL ps) = (ps[j]?).map lvI := by
  unfold stL
  rw [aget_cons, if_neg (by simp; omega), ← itemsL_get ps 1 j]
  congr 1
  omega
theorem stL_len (ps : List (Option Int)) : (stL ps).length = ps.length + 1 := by
  have : ∀ (ps : List (Option Int)) (i : Int), (itemsL i ps).length = ps.length := by
    intro ps
    induction ps with
    | nil => intro i; rfl
    | cons p r ih => intro i; simp [itemsL, ih]
  simp [stL, this]
theorem stL_free (ps : List (Option Int)) : freeM (stL ps) = (ps.length : Int) + 1 := by
  obtain ⟨f, hf, h1, h2, h3, h4⟩ := freeM_spec (stL_sorted ps)
  have hn : aget ((ps.length : Int) + 1) (stL ps) = none := by rw [stL_get]; simp
  have hs : ∀ j, j < ps.length → (aget ((j : Int) + 1) (stL ps)).isSome = true := fun j hj => by rw [stL_get]; simp [hj]
  have : f = ps.length + 1 := by
    rcases Nat.lt_trichotomy f (ps.length + 1) with h | h | h
    · have := hs (f - 1) (by omega)
      rw [show ((f - 1 : Nat) : Int) + 1 = f by omega, h3] at this
      cases this
    · exact h
    · have := h4 (ps.length + 1) (by omega) h
      rw [show ((ps.length + 1 : Nat) : Int) = (ps.length : Int) + 1 by omega, hn] at this
      cases this
  rw [hf, this]
  omega
theorem nmsL_mem : ∀ (k : Nat) (e : Nm × Int), e ∈ nmsL k → ∃ j, j < k ∧ e = (fname j, (j : Int) + 1)
  | 0, e, h => by cases h
  | k + 1, e, h => by
    rcases List.mem_append.1 h with h | h
    · obtain ⟨j, hj, he⟩ := nmsL_mem k e h
      exact ⟨j, by omega, he⟩
    · simp at h
      exact ⟨k, by omega, h⟩
theorem fname_lt : ∀ k, k < 20 → ∀ j, j < k → bytesBefore (fname k) (fname j) = false ∧ fname j ≠ fname k := by decide
theorem fname_good : ∀ k, k < 20 → goodL (fname k) = true := by decide
theorem nmsL_put (k : Nat) (hk : k < 20) : aput bytesBefore (fname k) ((k : Int) + 1) (nmsL k) = nmsL (k + 1) ∧ aget (fname k) (nmsL k) = none := by
  have hn : aget (fname k) (nmsL k) = none := by
    rw [aget_none]
    intro p hp
    obtain ⟨j, hj, rfl⟩ := nmsL_mem k p hp
    exact (fname_lt k hk j hj).2
  refine ⟨?_, hn⟩
  unfold aput
  rw [adel_none hn, ains_end]
  · rfl
  · intro p hp
    obtain ⟨j, hj, rfl⟩ := nmsL_mem k p hp
    exact (fname_lt k hk j hj).1
theorem amod_root (f : ItM → ItM) (r : ItM) (L : TrM) (h : ∀ q ∈ L, q.1 ≠ 0) : amod 0 f ((0, r) :: L) = (0, f r) :: L := by
  unfold amod
  rw [List.map_cons, if_pos rfl]
  congr 1
  conv => rhs; rw [← List.map_id L]
  apply List.map_congr_left
  intro q hq
  rw [if_neg (h q hq)]
  rfl
theorem stL_append (ps : List (Option Int)) (p : Option Int) : stL (ps ++ [p]) = (0, rootL (ps.length + 1)) :: (itemsL 1 ps ++ [((ps.length : Int) + 1, lvI p)]) := by
  unfold stL
  rw [itemsL_append, List.length_append]
  rw [show (1 : Int) + ps.length = (ps.length : Int) + 1 by omega]
  rfl
theorem stL_make (ps : List (Option Int)) (h : ps.length < 20) : makeM (stL ps) [fname ps.length] 1 = (((ps.length : Int) + 1, 0), stL (ps ++ [none])) := by
  have hg : fineL [fname ps.length] = 0 := by
    unfold fineL
    simp [fname_good _ h]
  have hp : placeM (stL ps) [fname ps.length] = (0, fname ps.length, 0) := by
    have hk : kindM (stL ps) 0 = 2 := rfl
    unfold placeM
    simp [lookM, hk]
  have hn : namesM (stL ps) 0 = nmsL ps.length := rfl
  obtain ⟨e1, e2⟩ := nmsL_put ps.length h
  have he : makeE (stL ps) [fname ps.length] 1 = 0 := by
    unfold makeE
    rw [hg, hp, hn, e2, stL_len]
    simp
    omega
  unfold makeM
  rw [if_pos he, stL_free]
  congr 1
  unfold makeOk
  rw [hp, stL_free, stL_append]
  have hfree : aget ((ps.length : Int) + 1) (stL ps) = none := by rw [stL_get]; simp
  have ha : aput ilt ((ps.length : Int) + 1) (freshM 1) (stL ps) = stL ps ++ [((ps.length : Int) + 1, freshM 1)] := by
    unfold aput
    rw [adel_none hfree, ains_end]
    intro q hq
    simp only [decide_eq_false_iff_not]
    rcases List.mem_cons.1 hq with rfl | hq
    · simp; omega
    · have := itemsL_keys ps 1 q hq
      omega
  rw [ha]
  unfold setName
  have hL : ∀ q ∈ itemsL 1 ps ++ [((ps.length : Int) + 1, freshM 1)], q.1 ≠ 0 := by
    intro q hq
    rcases List.mem_append.1 hq with hq | hq
    · have := itemsL_keys ps 1 q hq; omega
    · simp at hq; rw [hq]; simp; omega
  rw [show stL ps ++ [((ps.length : Int) + 1, freshM 1)] = (0, rootL ps.length) :: (itemsL 1 ps ++ [((ps.length : Int) + 1, freshM 1)]) from rfl, amod_root _ _ _ hL]
  congr 2
  unfold rootL
  rw [← e1]
theorem stL_seal (ps : List (Option Int)) (t : Int) (ht : t ≤ 1099511627776) : sealM (stL (ps ++ [none])) ((ps.length : Int) + 1) t = (0, stL (ps ++ [some t])) := by
  have hx : aget ((ps.length : Int) + 1) (stL (ps ++ [none])) = some (freshM 1) := by rw [stL_get]; simp [lvI]
  have he : sealE (stL (ps ++ [none])) ((ps.length : Int) + 1) t = 0 := by
    unfold sealE
    rw [hx]
    simp [freshM]
    omega
  unfold sealM
  rw [he]
  simp only [if_pos]
  congr 1
  have hm : amod ((ps.length : Int) + 1) (fun x => { x with closed := true, til := t }) (stL (ps ++ [none])) = stL (ps ++ [some t]) := by
    rw [stL_append, stL_append]
    unfold amod
    rw [List.map_cons, if_neg (by simp; omega), List.map_append]
    congr 2
    conv => rhs; rw [← List.map_id (itemsL 1 ps)]
    apply List.map_congr_left
    intro q hq
    have := itemsL_keys ps 1 q hq
    rw [if_neg (by omega)]
    rfl
    simp [lvI, freshM]
  rw [hm]
  unfold settleM
  rw [stL_get]
  simp [lvI]
theorem liveM_append (A B : TrM) (now : Int) : liveM (A ++ B) now = liveM A now ++ liveM B now := by simp [liveM]
theorem stL_live (ps : List (Option Int)) (p : Option Int) (now : Int) : liveM (stL (ps ++ [p])) now = liveM (stL ps) now ++ (match p with | some t => if now < t then [(ps.length : Int) + 1] else [] | none => []) := by
  have h0 : ∀ k L, liveM ((0, rootL k) :: L) now = liveM L now := fun k L => by simp [liveM, livesB, rootL, freshM]
  rw [stL_append, h0, liveM_append]
  unfold stL
  rw [h0]
  congr 1
  cases p with
  | none => simp [liveM, lvI, livesB, freshM]
  | some t =>
    by_cases ht : now < t <;> simp [liveM, lvI, livesB, ht]
theorem stL_item {ps : List (Option Int)} {z : Int} {x : ItM} (hx : aget z (stL ps) = some x) : x.links = 1 := by
  have hm := aget_mem hx
  rcases List.mem_cons.1 hm with h | h
  · cases h; rfl
  · have : ∀ (ps : List (Option Int)) (i : Int), (z, x) ∈ itemsL i ps → x.links = 1 := by
      intro ps
      induction ps with
      | nil => intro i h; cases h
      | cons p r ih =>
        intro i h
        simp only [itemsL] at h
        rcases List.mem_cons.1 h with h | h
        · simp only [Prod.mk.injEq] at h
          rw [h.2]
          cases p <;> rfl
        · exact ih _ h
    exact this ps 1 h
theorem stL_til {ps : List (Option Int)} {z : Int} {x : ItM} {m : Int} (hm0 : 0 ≤ m) (hp : ∀ t, some t ∈ ps → t < m) (hx : (z, x) ∈ stL ps) : x.til ≤ m := by
  rcases List.mem_cons.1 hx with h | h
  · cases h; exact hm0
  · have : ∀ (ps : List (Option Int)) (i : Int), (∀ t, some t ∈ ps → t < m) → (z, x) ∈ itemsL i ps → x.til ≤ m := by
      intro ps
      induction ps with
      | nil => intro i _ h; cases h
      | cons p r ih =>
        intro i hp h
        simp only [itemsL] at h
        rcases List.mem_cons.1 h with h | h
        · simp only [Prod.mk.injEq] at h
          rw [h.2]
          cases p with
          | none => exact hm0
          | some t => have := hp t (by simp); simp only [lvI]; omega
        · exact ih _ (fun t ht => hp t (by simp [ht])) h
    exact this ps 1 hp h
theorem live_none {T : TrM} {now : Int} (h : ∀ z x, (z, x) ∈ T → x.til ≤ now) : liveM T now = [] := by
  unfold liveM
  rw [List.filter_eq_nil_iff.2, List.map_nil]
  intro q hq
  have := h q.1 q.2 hq
  simp [livesB]
  omega
/-- Lives a node at a time? -/
def atLives (T : TrM) (now : Int) (z : Int) : Bool := match aget z T with | some x => livesB x now | none => false
theorem live_later {T : TrM} (hs : ASorted ilt T) {now later : Int} (h : now ≤ later) : liveM T later = (liveM T now).filter (atLives T later) := by
  unfold liveM
  rw [List.filter_map, List.filter_filter]
  congr 1
  apply List.filter_congr
  intro q hq
  have : atLives T later q.1 = livesB q.2 later := by
    unfold atLives
    rw [aget_of_mem iltLaws hs hq]
  simp only [Function.comp, this]
  by_cases hl : livesB q.2 later = true
  · have : livesB q.2 now = true := by
      simp only [livesB, Bool.and_eq_true, decide_eq_true_eq] at hl ⊢
      exact ⟨hl.1, by omega⟩
    rw [hl, this]; rfl
  · have : livesB q.2 later = false := by simpa using hl
    rw [this]; simp
theorem live_mem {T : TrM} (hs : ASorted ilt T) {now z : Int} (h : z ∈ liveM T now) : ∃ x, aget z T = some x ∧ livesB x now = true := by
  obtain ⟨q, hq, rfl⟩ := List.mem_map.1 h
  obtain ⟨h1, h2⟩ := List.mem_filter.1 hq
  exact ⟨q.2, aget_of_mem iltLaws hs h1, h2⟩
theorem live_rises {T : TrM} (hs : ASorted ilt T) (now : Int) : (liveM T now).Pairwise (· < ·) := by
  unfold liveM
  rw [List.pairwise_map]
  exact (List.Pairwise.filter _ hs).imp fun {a b} h => by simpa using h
theorem filter_at {α : Type} (q : α → Bool) : ∀ (l : List α) (i : Nat) (x : α), l[i]? = some x → q x = true → (l.filter q)[((l.take i).filter q).length]? = some x
  | [], i, x, h, _ => by simp at h
  | y :: r, 0, x, h, hq => by
    simp only [List.getElem?_cons_zero, Option.some.injEq] at h
    subst h
    simp [hq]
  | y :: r, i + 1, x, h, hq => by
    have := filter_at q r i x (by simpa using h) hq
    rw [List.take_succ_cons, List.filter_cons, List.filter_cons]
    by_cases hy : q y = true
    · simpa [hy] using this
    · simpa [hy] using this
theorem filter_step {α : Type} (q : α → Bool) {l : List α} {i : Nat} {x : α} (h : l[i]? = some x) : ((l.take (i + 1)).filter q).length = ((l.take i).filter q).length + if q x then 1 else 0 := by
  obtain ⟨hi, e⟩ := List.getElem?_eq_some_iff.1 h
  rw [List.take_succ_eq_append_getElem hi, e, List.filter_append, List.length_append]
  congr 1
  by_cases hq : q x <;> simp [hq]
end Go.Proofs.YtpgklnhkfgbpgaaGreat
namespace Go.Proofs.YtpgklnhkfgbpgaaGreat
open Go.ChangeShapes Go.WideShapes Go.ChangeAt Go.RowKit
set_option linter.unusedVariables false
set_option linter.unusedSimpArgs false

theorem commit_all {T : TrM} (h : ∀ id, dropE T id ≠ 0) : commitM T = T := by
  unfold commitM
  have : ∀ l : List Int, l.foldl (fun S id => (dropM S id).2) T = T := by
    intro l
    induction l with
    | nil => rfl
    | cons a r ih =>
      rw [List.foldl_cons]
      have : (dropM T a).2 = T := by unfold dropM; rw [if_neg (h a)]
      rw [this]; exact ih
  exact this _
theorem stL_closed {ps : List (Option Int)} (hp : ∀ p ∈ ps, p ≠ none) (id : Int) : dropE (stL ps) id ≠ 0 := by
  unfold dropE
  cases hx : aget id (stL ps) with
  | none => simp
  | some x =>
    have hm := aget_mem hx
    rcases List.mem_cons.1 hm with h | h
    · have h2 : x = rootL ps.length := (Prod.mk.inj h).2
      rw [h2]; simp [rootL, freshM]
    · have : ∀ (ps : List (Option Int)) (i : Int), (∀ p ∈ ps, p ≠ none) → (id, x) ∈ itemsL i ps → x.closed = true := by
        intro ps
        induction ps with
        | nil => intro i _ h; cases h
        | cons p r ih =>
          intro i hp h
          simp only [itemsL] at h
          rcases List.mem_cons.1 h with h | h
          · simp only [Prod.mk.injEq] at h
            rw [h.2]
            cases p with
            | none => exact absurd rfl (hp none (by simp))
            | some t => rfl
          · exact ih _ (fun q hq => hp q (by simp [hq])) h
      have hc := this ps 1 hp h
      simp only [hc]
      by_cases hk : x.kind = 2 <;> simp [hk]
theorem stL_bound {ps : List (Option Int)} {most u : Int} (h : ∀ now, 0 ≤ now → boundM (stL ps) now = decide (now < most)) : ∀ now, 0 ≤ now → boundM (stL (ps ++ [some u])) now = decide (now < if most < u then u else most) := by
  intro now h0
  have h1 := h now h0
  obtain ⟨c, hc, hcc⟩ : ∃ c, (if most < u then u else most) = c ∧ (now < c ↔ (now < most ∨ now < u)) := by
    refine ⟨_, rfl, ?_⟩
    by_cases hmu : most < u
    · rw [if_pos hmu]; omega
    · rw [if_neg hmu]; omega
  rw [hc]
  unfold boundM at h1 ⊢
  rw [stL_live, List.length_append]
  by_cases hu : now < u
  · have : now < c := hcc.2 (.inr hu)
    simp [hu, this]
  · have e1 : decide (now < c) = decide (now < most) := by
      apply decide_eq_decide.2
      rw [hcc]; omega
    rw [e1, ← h1]
    simp [hu]
theorem stL_bound0 : ∀ now : Int, 0 ≤ now → boundM (stL []) now = decide (now < 0) := by
  intro now h0
  have : liveM (stL []) now = [] := by simp [liveM, stL, itemsL, rootL, livesB, freshM]
  unfold boundM
  rw [this]
  simp; omega
theorem forget_one {S S' : SnM} {now er : Int} {x : OneM} (h : ForgetR S 1 now er S') (hl : S.l = [x]) (hx : x.id = 1) : (boundM x.t now = true ∧ er = 28 ∧ S' = S) ∨ (boundM x.t now = false ∧ er = 0 ∧ S'.l = []) := by
  rcases h with ⟨_, _, hno⟩ | ⟨k, z, hz, hid, hno, h⟩
  · exact absurd hx (hno x (by rw [hl]; simp))
  · rcases k with _ | k
    · have e1 : x = z := by rw [hl] at hz; simpa using hz
      subst e1
      rcases h with ⟨hb, rfl, rfl⟩ | ⟨hb, rfl, rfl⟩
      · exact .inl ⟨hb, rfl, rfl⟩
      · exact .inr ⟨hb, rfl, by show S.l.take 0 ++ S.l.drop 1 = []; rw [hl]; rfl⟩
    · rw [hl] at hz; simp at hz
theorem forget_none {S S' : SnM} {id now er : Int} (h : ForgetR S id now er S') (hl : S.l = []) : er = 29 ∧ S' = S := by
  rcases h with ⟨h1, h2, _⟩ | ⟨k, z, hz, _⟩
  · exact ⟨h1, h2⟩
  · rw [hl] at hz; simp at hz
section
variable {W w : World} {o : Mark} {b s t : Nat} {S : SnM} {T : TrM}
theorem Sn13.two (h : Sn13 W o w b s t S T) : w.cell? ⟨b, 0, none⟩ = some (ptr s) ∧ w.cell? ⟨b, 1, none⟩ = some (ptr t) := by
  obtain ⟨x, y, hx⟩ := h.box
  constructor <;> simp [World.cell?, hx]
theorem Sn13.turn (h : Sn13 W o w b s t S T) {w' : World} {o' : Mark} {T' : TrM} (hs : Step o (fun k => k = 2) w o' w') (hT : TreeO o' 2 w' t T') (hok : OkM T') : Sn13 W o' w' b s t S T' := by
  obtain ⟨x, y, hx⟩ := h.box
  have h0 : ¬ (fun k : Nat => k = 2) 0 := by simp
  exact ⟨⟨x, y, (hs.block h.low (by rw [h.own]; simp)).trans hx⟩, (hs.old b h.low).trans h.own, Nat.lt_of_lt_of_le h.low hs.keep.size, h.marks.step h0 hs, h.sn.step h0 (by simp) hs, hT, hok, h.len, h.last, h.next⟩
end
end Go.Proofs.YtpgklnhkfgbpgaaGreat
namespace Go.Proofs.YtpgklnhkfgbpgaaGreat
open Go.Joins Go.ChangeShapes Go.WideShapes Go.ChangeAt Go.RowKit Go.Deep
set_option linter.unusedVariables false
section
variable {H : Type} {enc : TypeId × Value → H} {W : World}
theorem open_u64T {fuel : Nat} {v : Value} {x : DataW H × List MemPlace} (h : DataW.trod enc Tryz.prog W 0 (fun _ => true) true fuel 43 [v] = some x) (l : ∀ p ∈ x.2, p.block < W.heap.size) :
    ∃ a len cap us, v = .slice a len cap ∧ len ≤ cap ∧ RowAt (Old W) W a len ((us : List Int).map (Value.int .u64)) ∧ ∀ u ∈ us, 0 ≤ u := by
  rcases open_ints Tryz.underlying43 Tryz.underlying26 (by kernel_rfl) h with ⟨hcs, hx⟩ | ⟨a, len, cap, zs, hcs, _, hl, hm, hz, hx, hcell, hwz⟩
  · simp only [List.cons.injEq, and_true] at hcs
    subst hcs
    exact ⟨none, 0, 0, [], rfl, Nat.le_refl _, RowAt.nil _ _ _, by simp⟩
  · simp only [List.cons.injEq, and_true] at hcs
    subst hcs
    subst hx
    simp only [if_true] at hz
    refine ⟨some a, len, cap, zs.take len, rfl, hl, ⟨by simp; omega, by omega, fun h0 => ?_⟩, fun u hu => ?_⟩
    · obtain ⟨b, off, spot⟩ := a
      have hspot : spot = none := by simpa [Addr.add] using World.cell?_spot (hcell 0 (by omega))
      subst hspot
      have hb : b < W.heap.size := l (.cell b off) (MemPlace.mem_row.2 ⟨0, by omega, by simp⟩)
      refine ⟨b, off, rfl, hb, hb, fun i hi => ?_⟩
      have h1 := hcell i (by omega)
      rw [add_plain] at h1
      have hi' : i < zs.length := by omega
      rw [h1, List.getElem?_map, List.getElem?_take, if_pos hi, List.getElem?_eq_getElem hi']
      simp only [Option.map_some, List.getD, List.getElem?_eq_getElem hi', Option.getD_some]
    · have := hwz u (List.mem_of_mem_take hu)
      simp [Lit.wf, IntKind.min, IntKind.max, IntKind.signed, IntKind.bits] at this
      omega
end
end Go.Proofs.YtpgklnhkfgbpgaaGreat
namespace Go.Proofs.YtpgklnhkfgbpgaaGreat
open Go.ChangeShapes Go.WideShapes Go.ChangeAt Go.RowKit
set_option linter.unusedVariables false

theorem strs_lit {w : World} {vs : List Value} {ls : List Nm} {n : Nat} (t : TypeId) (h : vs = (ls.map strOf).map Value.string) (hn : vs.length = n) (hm : n ≤ 1000) (hs : ∀ l ∈ ls, l.length ≤ 1000) : StrsAt (fun b => b = w.heap.size) (w.alloc (.cells vs.toArray t)) (some ⟨w.heap.size, 0, none⟩) n (ls.map strOf) := by
  subst hn
  refine ⟨?_, fun s hs' => ?_⟩
  · rw [← h]
    exact new_row vs t (by unfold maxLen; omega)
  · obtain ⟨l, hl, rfl⟩ := List.mem_map.1 hs'
    rw [strOf_size]
    have := hs l hl
    unfold maxLen; omega

end Go.Proofs.YtpgklnhkfgbpgaaGreat
