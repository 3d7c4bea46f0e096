/- The reference: add. -/
import Derived.Test.YtbapdoicejakhaaGreatM30
import Derived.WalkLawsBesides
import Derived.Deep.CutBlock
import Derived.Deep.DeepCutAuto
namespace Go.Proofs.YtbapdoicejakhaaGreat
open Go.ChangeShapes Go.WideShapes Go.ChangeAt Go.RowKit
set_option linter.unusedVariables false
set_option linter.unusedSimpArgs false

/-- Where a new entry goes. -/
def AddK (E : List Ent) (d : Int) (nm : Nm) (w : World) (v : Value) (wx : World) : Prop :=
  ∃ k : Nat, k ≤ E.length ∧ v = .int .i64 k ∧ addE E d nm = (fun id => E.take k ++ (d, nm, id) :: E.drop k) ∧ w = wx
theorem AddK.of {E : List Ent} {d : Int} {nm : Nm} {w : World} {k : Nat} (hk : k ≤ E.length) (ha : (E.take k).all (entLt d nm) = true) (hx : ∀ x, E[k]? = some x → entLt d nm x = false) : AddK E d nm w (.int .i64 k) w := by
  refine ⟨k, hk, rfl, ?_, rfl⟩
  obtain ⟨h1, h2⟩ := take_while ha hx hk
  funext id
  unfold addE
  rw [h1, h2]
theorem all_take_succ {α : Type} {p : α → Bool} {l : List α} {k : Nat} {x : α} (h : (l.take k).all p = true) (hx : l[k]? = some x) (hp : p x = true) : (l.take (k + 1)).all p = true := by
  obtain ⟨hk, e⟩ := List.getElem?_eq_some_iff.1 hx
  rw [List.take_succ_eq_append_getElem hk, List.all_append, h, e]
  simp [hp]
theorem entC_all (e : Ent) : ∀ u ∈ entC e, u.oneCell' = true := by
  intro u hu
  simp only [entC, List.mem_cons, List.not_mem_nil, or_false] at hu
  rcases hu with rfl | rfl | rfl <;> rfl
theorem add_end {w u : World} {r : Nat} {E : List Ent} {d id : Int} {nm : Nm} {k m n c : Nat} {A : Option Addr} {ys : List Value} (hadd : addE E d nm = fun id => E.take k ++ (d, nm, id) :: E.drop k) (hl : E.length = n) (hk : k ≤ n) (hB : Below w.heap.size w u) (hmk : m = k) (hys : ys = (E.take k).flatMap entC)
    (hown : u.ownsRow w.heap.size 119 3 (.slice A (m + 1 + (n - k)) c) (m + 1 + (n - k)) ((ys ++ entC (d, nm, id)) ++ (E.drop k).flatMap entC)) (hm : (m + 1 + (n - k)) * 3 ≤ maxLen) :
    EntSet w r (addE E d nm id) (.returned (.tuple #[])) (u.setCell ⟨r, 2, none⟩ (.slice A (k + 1 + (n - k)) c)) := by
  subst hmk hys
  have hlen : (addE E d nm id).length = m + 1 + (n - m) := by rw [hadd]; simp; omega
  have e5 : m + 1 + (n - m) = (addE E d nm id).length := by omega
  obtain ⟨-, hcc, hnz, hrow2⟩ := RowAt.of_ownk hown hm
  rw [e5] at hcc hrow2
  refine ⟨rfl, A, c, u, hB, by rw [hlen], hcc, hnz, ?_⟩
  have e6 : (addE E d nm id).flatMap entC = ((E.take m).flatMap entC ++ entC (d, nm, id)) ++ (E.drop m).flatMap entC := by rw [hadd]; simp
  rw [e6]
  exact hrow2
theorem row_blk {w : World} {g : Nat} {vs : List Value} {t : TypeId} {z : Nat × Nat} (h : w.heap[g]? = some (.cells vs.toArray t z)) (hm : vs.length ≤ maxLen) : RowAt (fun x => x = g) w (some ⟨g, 0, none⟩) vs.length vs := by
  refine ⟨rfl, hm, fun _ => ⟨g, 0, rfl, rfl, (Array.getElem?_eq_some_iff.1 h).1, fun i hi => ?_⟩⟩
  simp [World.cell?, h]
theorem two_new (w : World) (o o' : Obj) : ((w.alloc o).alloc o').drew.heap[w.heap.size]? = some o ∧ ((w.alloc o).alloc o').drew.heap[w.heap.size + 1]? = some o' := by
  constructor
  · have := (MapKept.heap_alloc w o).1
    have h2 := Below.heap_alloc (w.alloc o) o' w.heap.size (by simp)
    exact h2.trans this
  · have := (MapKept.heap_alloc (w.alloc o) o').1
    have hs : (w.alloc o).heap.size = w.heap.size + 1 := by simp
    rw [hs] at this
    exact this
section
variable {F : Nat → Prop} {r : Nat} {T : TrM} {D : List (List UInt8)} {E : List Ent}
set_option maxHeartbeats 4000000 in
theorem radd_some (d : Int) (nm : Nm) (id : Int) (w : World) (b n cE : Nat) (hc2 : w.cell? ⟨r, 2, none⟩ = some (.slice (some ⟨b, 0, none⟩) n cE)) (hrw : r < w.heap.size) (hfr : w.frozen? ⟨r, 2, none⟩ = false) (hn : E.length = n) (hcap : n ≤ cE) (hn6 : n ≤ 1000000) (hrow : RowAt F w (some ⟨b, 0, none⟩) (n * 3) (E.flatMap entC)) :
    Calls Tryz.prog 65 #[ptr r, .int .i64 d, .string (strOf nm), .int .i64 id] w (EntSet w r (addE E d nm id)) := by
  obtain ⟨i, hi, hz, h3, h32⟩ := info_parts entInfo
  have HI := Lib.hid (And.intro hi (And.intro hz (And.intro h3 h32)))
  have HN := Lib.hid hrow
  have HL := Lib.hid hn
  have HKP : Hid (∀ w1, Below w.heap.size w w1 → w1.cell? ⟨r, 2, none⟩ = some (.slice (some ⟨b, 0, none⟩) n cE) ∧ w1.frozen? ⟨r, 2, none⟩ = false) := fun w1 hb => ⟨by rw [hb.cell (p := ⟨r, 2, none⟩) hrw]; exact hc2, by rw [hb.frozen (p := ⟨r, 2, none⟩) hrw]; exact hfr⟩
  clear hrow hn hi hz h3 h32
  go_enter Tryz.func65, Tryz.ntmps65
  go_upto_block 0 with (fail)
  go_cut [8] from 9 to 53 (fun i wx => AddK E d nm w i wx)
  case first =>
    go_wp2_with fail
    go_loop [8] (fun i => ∃ k : Nat, k ≤ n ∧ i = .int .i64 k ∧ (E.take k).all (entLt d nm) = true) (fun i => n - (intOf i).toNat)
    case atStart => exact ⟨0, by omega, rfl, by simp⟩
    case round =>
      obtain ⟨k, hk, rfl, hall⟩ := hrel
      have HA := Lib.hid hall
      clear hall
      by_cases hlt : k < n
      · have hx : E[k]? = some (E[k]'(by have := HL.out; omega)) := List.getElem?_eq_getElem _
        obtain ⟨q, hq⟩ : ∃ q, q = E[k]'(by have := HL.out; omega) := ⟨_, rfl⟩
        rw [← hq] at hx
        have HX := Lib.hid hx
        obtain ⟨b', off', e, hF, hb, hi, hc⟩ := HN.out.wide entC_len HL.out hx (by omega)
        simp only [Option.some.injEq, Addr.mk.injEq, and_true] at e
        obtain ⟨rfl, rfl⟩ := e
        have c0 : w.cell? ⟨b, k * 3, none⟩ = some (.int .i64 q.1) := by have := hc 0 (by omega); rwa [Nat.zero_add] at this
        have c1 : w.cell? ⟨b, k * 3 + 1, none⟩ = some (.string (strOf q.2.1)) := by have := hc 1 (by omega); rwa [Nat.zero_add] at this
        clear hx hq hc
        have i0 : (0 : Int) ≤ k := by omega
        have i1 : (k : Int) < n := by omega
        have hls : Op.bytesLess (strOf q.2.1).toList (strOf nm).toList = bytesBefore q.2.1 nm := by rw [strOf_list, strOf_list, less_is]
        have HR : Hid (entLt d nm q = true → (E.take (k + 1)).all (entLt d nm) = true) := fun h => all_take_succ HA.out HX.out h
        have HO : Hid (entLt d nm q = false → AddK E d nm w (.int .i64 k) w) := fun h => AddK.of (by have := HL.out; omega) HA.out fun x hx => by have := HX.out; rw [this] at hx; cases hx; exact h
        by_cases hp : q.1 < d
        · have e1 : decide (q.1 < d) = true := by simpa using hp
          replace HR := Lib.hid (HR.out (by simp [entLt, hp]))
          clear hp HO
          go_wp2
          go_round
          case rel => exact ⟨k + 1, by omega, by go_num, HR.out⟩
          case measure => simp [intOf]; omega
        · have e1 : decide (q.1 < d) = false := by simpa using hp
          by_cases hp2 : q.1 = d
          · have e2 : (q.1 == d) = true := by simpa using hp2
            cases hp3 : bytesBefore q.2.1 nm with
            | true =>
              rw [hp3] at hls
              replace HR := Lib.hid (HR.out (by simp [entLt, hp2, hp3]))
              clear hp hp2 hp3 HO
              go_wp2
              go_round
              case rel => exact ⟨k + 1, by omega, by go_num, HR.out⟩
              case measure => simp [intOf]; omega
            | false =>
              rw [hp3] at hls
              replace HO := Lib.hid (HO.out (by simp [entLt, hp2, hp3]))
              clear hp hp2 hp3 HR
              go_wp2
              go_meet
              exact HO.out
          · have e2 : (q.1 == d) = false := by simpa using hp2
            replace HO := Lib.hid (HO.out (by simp [entLt, hp, hp2]))
            clear hp hp2 HR hls
            go_wp2
            go_meet
            exact HO.out
      · have HO : Hid (AddK E d nm w (.int .i64 k) w) := AddK.of (by have := HL.out; omega) HA.out fun x hx => by
          have := HL.out
          rw [List.getElem?_eq_none (by omega)] at hx
          cases hx
        go_wp2
        go_meet
        exact HO.out
  case rest =>
    obtain ⟨k, hk, rfl, hadd, rfl⟩ := hcut
    have hkn : k ≤ n := by have := HL.out; omega
    have HSRC : Hid (∀ w1, Below w.heap.size w w1 → RowAt F w1 (some ⟨b, 0, none⟩) (k * 3) ((E.take k).flatMap entC) ∧ RowAt F w1 (if cE = k then some ⟨b, 0, none⟩ else some ⟨b, k * 3, none⟩) ((n - k) * 3) ((E.drop k).flatMap entC)) := fun w1 hb => by
      have h1 := HN.out.below hb (Nat.le_refl _)
      have h2 := h1.take (k * 3)
      rw [flatM_take entC 3 entC_len, Nat.min_eq_right (by omega)] at h2
      have h4 := h1.drop (k * 3)
      rw [flatM_drop entC 3 entC_len, ← Nat.sub_mul, Nat.zero_add] at h4
      refine ⟨h2, ?_⟩
      by_cases hce : cE = k
      · rw [if_pos hce]
        exact RowAt.zero _ _ _ (by rw [show n - k = 0 by omega, Nat.zero_mul]) (by rw [List.drop_of_length_le (by have := HL.out; omega)]; rfl)
      · rw [if_neg hce]; exact h4
    have i0 : (0 : Int) ≤ k := by omega
    have i1 : (k : Int) ≤ cE := by omega
    have i2 : (k : Int) ≤ n := by omega
    have i4 : (n : Int) ≤ cE := by omega
    have HADD := Lib.hid hadd
    clear hadd hk
    go_wp2
    refine wp_region_noPanic ?_
    refine wp_region_L (last := 24) (S := (fun w' => w'.cell? ⟨r, 2, none⟩ = some (.slice (some ⟨b, 0, none⟩) n cE) ∧ w'.frozen? ⟨r, 2, none⟩ = false)) (by kernel_rfl) ?_ (fun hS => ?_)
    · exact HKP.out _ (Below.refl _ _).drew
    refine wpAnyL_take (i := 0) (oi := ?oi1) (v := ?v1) ?hi1 (by kernel_rfl) (by kernel_rfl) (by kernel_rfl) (by kernel_rfl) (by kernel_rfl) ?hq1 (Or.inl ⟨?hw1, ?hy1⟩) hS ?rest1
    case hi1 => simp only [List.getElem?_toArray, List.getElem?_cons_succ, List.getElem?_cons_zero]; rfl
    case hq1 => exact fun _ _ _ h => h
    case hw1 => rfl
    case hy1 => intro w hSw; (try dsimp only at hSw); go_simp; (try with_reducible rfl)
    try simp only [Act.put, List.setIfInBounds_toArray, List.set_cons_zero, List.set_cons_succ]
    refine wpAnyL_take (i := 2) (oi := ?oi2) (v := ?v2) ?hi2 (by kernel_rfl) (by kernel_rfl) (by kernel_rfl) (by kernel_rfl) (by kernel_rfl) ?hq2 (Or.inl ⟨?hw2, ?hy2⟩) hS ?rest2
    case hi2 => simp only [List.getElem?_toArray, List.getElem?_cons_succ, List.getElem?_cons_zero]; rfl
    case hq2 => exact fun _ _ _ h => h
    case hw2 => rfl
    case hy2 => intro w hSw; (try dsimp only at hSw); go_simp; (try with_reducible rfl)
    try simp only [Act.put, List.setIfInBounds_toArray, List.set_cons_zero, List.set_cons_succ]
    refine wpAnyL_take (i := 3) (oi := ?oi3) (v := ?v3) ?hi3 (by kernel_rfl) (by kernel_rfl) (by kernel_rfl) (by kernel_rfl) (by kernel_rfl) ?hq3 (Or.inl ⟨?hw3, ?hy3⟩) hS ?rest3
    case hi3 => simp only [List.getElem?_toArray, List.getElem?_cons_succ, List.getElem?_cons_zero]; rfl
    case hq3 => exact fun _ _ _ h => h
    case hw3 => rfl
    case hy3 => intro w hSw; (try dsimp only at hSw); go_simp; (try with_reducible rfl)
    try simp only [Act.put, List.setIfInBounds_toArray, List.set_cons_zero, List.set_cons_succ]
    refine wpAnyL_take (i := 4) (oi := ?oi4) (v := ?v4) ?hi4 (by kernel_rfl) (by kernel_rfl) (by kernel_rfl) (by kernel_rfl) (by kernel_rfl) ?hq4 (Or.inl ⟨?hw4, ?hy4⟩) hS ?rest4
    case hi4 => simp only [List.getElem?_toArray, List.getElem?_cons_succ, List.getElem?_cons_zero]; rfl
    case hq4 => exact fun _ _ _ h => h
    case hw4 => rfl
    case hy4 => intro w hSw; (try dsimp only at hSw); go_simp; (try with_reducible rfl)
    try simp only [Act.put, List.setIfInBounds_toArray, List.set_cons_zero, List.set_cons_succ]
    refine wpAnyL_take (i := 5) (oi := ?oi5) (v := ?v5) ?hi5 (by kernel_rfl) (by kernel_rfl) (by kernel_rfl) (by kernel_rfl) (by kernel_rfl) ?hq5 (Or.inl ⟨?hw5, ?hy5⟩) hS ?rest5
    case hi5 => simp only [List.getElem?_toArray, List.getElem?_cons_succ, List.getElem?_cons_zero]; rfl
    case hq5 => exact fun _ _ _ h => h
    case hw5 => rfl
    case hy5 => intro w hSw; (try dsimp only at hSw); go_simp; (try with_reducible rfl)
    try simp only [Act.put, List.setIfInBounds_toArray, List.set_cons_zero, List.set_cons_succ]
    refine wpAnyL_take (i := 6) (oi := ?oi6) (v := ?v6) ?hi6 (by kernel_rfl) (by kernel_rfl) (by kernel_rfl) (by kernel_rfl) (by kernel_rfl) ?hq6 (Or.inl ⟨?hw6, ?hy6⟩) hS ?rest6
    case hi6 => simp only [List.getElem?_toArray, List.getElem?_cons_succ, List.getElem?_cons_zero]; rfl
    case hq6 => exact fun _ _ _ h => h
    case hw6 => rfl
    case hy6 => intro w hSw; (try dsimp only at hSw); go_simp; (try with_reducible rfl)
    try simp only [Act.put, List.setIfInBounds_toArray, List.set_cons_zero, List.set_cons_succ]
    refine wpAnyL_take (i := 7) (oi := ?oi7) (v := ?v7) ?hi7 (by kernel_rfl) (by kernel_rfl) (by kernel_rfl) (by kernel_rfl) (by kernel_rfl) ?hq7 (Or.inl ⟨?hw7, ?hy7⟩) hS ?rest7
    case hi7 => simp only [List.getElem?_toArray, List.getElem?_cons_succ, List.getElem?_cons_zero]; rfl
    case hq7 => exact fun _ _ _ h => h
    case hw7 => rfl
    case hy7 => intro w hSw; (try dsimp only at hSw); go_simp; (try with_reducible rfl)
    try simp only [Act.put, List.setIfInBounds_toArray, List.set_cons_zero, List.set_cons_succ]
    refine wpAnyL_take (i := 9) (oi := ?oi8) (v := ?v8) ?hi8 (by kernel_rfl) (by kernel_rfl) (by kernel_rfl) (by kernel_rfl) (by kernel_rfl) ?hq8 (Or.inl ⟨?hw8, ?hy8⟩) hS ?rest8
    case hi8 => simp only [List.getElem?_toArray, List.getElem?_cons_succ, List.getElem?_cons_zero]; rfl
    case hq8 => exact fun _ _ _ h => h
    case hw8 => rfl
    case hy8 => intro w hSw; (try dsimp only at hSw); go_simp; (try with_reducible rfl)
    try simp only [Act.put, List.setIfInBounds_toArray, List.set_cons_zero, List.set_cons_succ]
    refine wpAnyL_take (i := 10) (oi := ?oi9) (v := ?v9) ?hi9 (by kernel_rfl) (by kernel_rfl) (by kernel_rfl) (by kernel_rfl) (by kernel_rfl) ?hq9 (Or.inl ⟨?hw9, ?hy9⟩) hS ?rest9
    case hi9 => simp only [List.getElem?_toArray, List.getElem?_cons_succ, List.getElem?_cons_zero]; rfl
    case hq9 => exact fun _ _ _ h => h
    case hw9 => rfl
    case hy9 => intro w hSw; (try dsimp only at hSw); go_simp; (try with_reducible rfl)
    try simp only [Act.put, List.setIfInBounds_toArray, List.set_cons_zero, List.set_cons_succ]
    refine wpAnyL_take (i := 11) (oi := ?oi10) (v := ?v10) ?hi10 (by kernel_rfl) (by kernel_rfl) (by kernel_rfl) (by kernel_rfl) (by kernel_rfl) ?hq10 (Or.inl ⟨?hw10, ?hy10⟩) hS ?rest10
    case hi10 => simp only [List.getElem?_toArray, List.getElem?_cons_succ, List.getElem?_cons_zero]; rfl
    case hq10 => exact fun _ _ _ h => h
    case hw10 => rfl
    case hy10 => intro w hSw; (try dsimp only at hSw); go_simp; (try with_reducible rfl)
    try simp only [Act.put, List.setIfInBounds_toArray, List.set_cons_zero, List.set_cons_succ]
    refine wpAnyL_take (i := 12) (oi := ?oi11) (v := ?v11) ?hi11 (by kernel_rfl) (by kernel_rfl) (by kernel_rfl) (by kernel_rfl) (by kernel_rfl) ?hq11 (Or.inl ⟨?hw11, ?hy11⟩) hS ?rest11
    case hi11 => simp only [List.getElem?_toArray, List.getElem?_cons_succ, List.getElem?_cons_zero]; rfl
    case hq11 => exact fun _ _ _ h => h
    case hw11 => rfl
    case hy11 => intro w hSw; (try dsimp only at hSw); go_simp; (try with_reducible rfl)
    try simp only [Act.put, List.setIfInBounds_toArray, List.set_cons_zero, List.set_cons_succ]
    refine wpAnyL_take (i := 15) (oi := ?oi12) (v := ?v12) ?hi12 (by kernel_rfl) (by kernel_rfl) (by kernel_rfl) (by kernel_rfl) (by kernel_rfl) ?hq12 (Or.inl ⟨?hw12, ?hy12⟩) hS ?rest12
    case hi12 => simp only [List.getElem?_toArray, List.getElem?_cons_succ, List.getElem?_cons_zero]; rfl
    case hq12 => exact fun _ _ _ h => h
    case hw12 => rfl
    case hy12 => intro w hSw; (try dsimp only at hSw); go_simp; (try with_reducible rfl)
    try simp only [Act.put, List.setIfInBounds_toArray, List.set_cons_zero, List.set_cons_succ]
    refine wpAnyL_take (i := 16) (oi := ?oi13) (v := ?v13) ?hi13 (by kernel_rfl) (by kernel_rfl) (by kernel_rfl) (by kernel_rfl) (by kernel_rfl) ?hq13 (Or.inl ⟨?hw13, ?hy13⟩) hS ?rest13
    case hi13 => simp only [List.getElem?_toArray, List.getElem?_cons_succ, List.getElem?_cons_zero]; rfl
    case hq13 => exact fun _ _ _ h => h
    case hw13 => rfl
    case hy13 => intro w hSw; (try dsimp only at hSw); go_simp; (try with_reducible rfl)
    try simp only [Act.put, List.setIfInBounds_toArray, List.set_cons_zero, List.set_cons_succ]
    refine wpAnyL_take (i := 17) (oi := ?oi14) (v := ?v14) ?hi14 (by kernel_rfl) (by kernel_rfl) (by kernel_rfl) (by kernel_rfl) (by kernel_rfl) ?hq14 (Or.inl ⟨?hw14, ?hy14⟩) hS ?rest14
    case hi14 => simp only [List.getElem?_toArray, List.getElem?_cons_succ, List.getElem?_cons_zero]; rfl
    case hq14 => exact fun _ _ _ h => h
    case hw14 => rfl
    case hy14 => intro w hSw; (try dsimp only at hSw); go_simp; (try with_reducible rfl)
    try simp only [Act.put, List.setIfInBounds_toArray, List.set_cons_zero, List.set_cons_succ]
    refine wpAnyL_take (i := 18) (oi := ?oi15) (v := ?v15) ?hi15 (by kernel_rfl) (by kernel_rfl) (by kernel_rfl) (by kernel_rfl) (by kernel_rfl) ?hq15 (Or.inl ⟨?hw15, ?hy15⟩) hS ?rest15
    case hi15 => simp only [List.getElem?_toArray, List.getElem?_cons_succ, List.getElem?_cons_zero]; rfl
    case hq15 => exact fun _ _ _ h => h
    case hw15 => rfl
    case hy15 => intro w hSw; (try dsimp only at hSw); go_simp; (try with_reducible rfl)
    try simp only [Act.put, List.setIfInBounds_toArray, List.set_cons_zero, List.set_cons_succ]
    refine wpAnyL_take (i := 19) (oi := ?oi16) (v := ?v16) ?hi16 (by kernel_rfl) (by kernel_rfl) (by kernel_rfl) (by kernel_rfl) (by kernel_rfl) ?hq16 (Or.inl ⟨?hw16, ?hy16⟩) hS ?rest16
    case hi16 => simp only [List.getElem?_toArray, List.getElem?_cons_succ, List.getElem?_cons_zero]; rfl
    case hq16 => exact fun _ _ _ h => h
    case hw16 => rfl
    case hy16 => intro w hSw; (try dsimp only at hSw); go_simp; (try with_reducible rfl)
    try simp only [Act.put, List.setIfInBounds_toArray, List.set_cons_zero, List.set_cons_succ]
    refine wpAnyL_take (i := 20) (oi := ?oi17) (v := ?v17) ?hi17 (by kernel_rfl) (by kernel_rfl) (by kernel_rfl) (by kernel_rfl) (by kernel_rfl) ?hq17 (Or.inl ⟨?hw17, ?hy17⟩) hS ?rest17
    case hi17 => simp only [List.getElem?_toArray, List.getElem?_cons_succ, List.getElem?_cons_zero]; rfl
    case hq17 => exact fun _ _ _ h => h
    case hw17 => rfl
    case hy17 => intro w hSw; (try dsimp only at hSw); go_simp; (try with_reducible rfl)
    try simp only [Act.put, List.setIfInBounds_toArray, List.set_cons_zero, List.set_cons_succ]
    refine wpAnyL_ready (rs := [1, 13]) (by kernel_rfl) (by simp) ?_
    refine AllReadyL.cons (o := ?o18) ?ho18 (fun K hK => ?wa) (AllReadyL.cons (o := ?o19) ?ho19 (fun K hK => ?wb) AllReadyL.nil)
    case ho18 => simp only [List.getElem?_toArray, List.getElem?_cons_succ, List.getElem?_cons_zero]; rfl
    case ho19 => simp only [List.getElem?_toArray, List.getElem?_cons_succ, List.getElem?_cons_zero]; rfl
    case wa =>
      go_simp
      refine hK.out _ _ (fun _ => HKP.out _ ((Below.refl _ _).drew.alloc (Nat.le_refl _) _)) (fun hS => ?_)
      replace hS := hS (by decide)
      clear hK K
      try simp only [Act.put, List.setIfInBounds_toArray, List.set_cons_zero, List.set_cons_succ]
      refine wpAnyL_ready (rs := [8, 13]) (by kernel_rfl) (by simp) ?_
      refine AllReadyL.cons (o := ?o20) ?ho20 (fun K hK => ?waa) (AllReadyL.cons (o := ?o21) ?ho21 (fun K hK => ?wab) AllReadyL.nil)
      case ho20 => simp only [List.getElem?_toArray, List.getElem?_cons_succ, List.getElem?_cons_zero]; rfl
      case ho21 => simp only [List.getElem?_toArray, List.getElem?_cons_succ, List.getElem?_cons_zero]; rfl
      case waa =>
        refine step_append_rows (by rfl) (.tmp 55) (.tmp 61) 98 (by rfl) w.heap.size 119 i _ 3 32 Tryz.underlying98 HI.out.1 HI.out.2.1 HI.out.2.2.1 HI.out.2.2.2 rfl (by omega) _ 0 [] (by rfl) (own_new (MapKept.heap_alloc w.drew _).1 (Nat.le_refl _)) _ k _ ((E.take k).flatMap entC) (by rfl) (HSRC.out _ ((Below.refl _ _).drew.alloc (Nat.le_refl _) _)).1 (entC_one _) (by unfold maxLen; omega) (by omega) (by simp <;> omega) ?_
        intro A1 c1 u1 hown0 hb1
        have hB0 : Below w.heap.size w u1 := ((Below.refl _ _).drew.alloc (Nat.le_refl _) _).trans hb1
        refine hK.out _ _ (fun _ => HKP.out _ hB0) (fun hS => ?_)
        replace hS := hS (by decide)
        clear hK K
        try simp only [Act.put, List.setIfInBounds_toArray, List.set_cons_zero, List.set_cons_succ]
        refine wpAnyL_ready (rs := [13]) (by kernel_rfl) (by simp) ?_
        refine AllReadyL.cons (o := ?o22) ?ho22 (fun K hK => ?_) AllReadyL.nil
        case ho22 => simp only [List.getElem?_toArray, List.getElem?_cons_succ, List.getElem?_cons_zero]; rfl
        go_simp
        refine hK.out _ _ (fun _ => HKP.out _ (hB0.alloc hB0.size _)) (fun hS => ?_)
        replace hS := hS (by decide)
        clear hK K
        try simp only [Act.put, List.setIfInBounds_toArray, List.set_cons_zero, List.set_cons_succ]
        rw [Nat.zero_add] at hown0
        have hown1 := own_below hown0 ((Below.refl _ _).alloc (Nat.le_refl _) (.cells (entC (d, nm, id)).toArray 119))
        have hrow := new_row (w := u1) (entC (d, nm, id)) 119 (by simp [entC, maxLen])
        have hB1 : Below w.heap.size w (u1.alloc (.cells (entC (d, nm, id)).toArray 119)) := hB0.alloc hB0.size _
        refine wpAnyL_ready (rs := [14]) (by kernel_rfl) (by simp) ?_
        refine AllReadyL.cons (o := ?o23) ?ho23 (fun K hK => ?_) AllReadyL.nil
        case ho23 => simp only [List.getElem?_toArray, List.getElem?_cons_succ, List.getElem?_cons_zero]; rfl
        refine step_append_rows (by rfl) (.tmp 62) (.tmp 67) 98 (by rfl) w.heap.size 119 i _ 3 32 Tryz.underlying98 HI.out.1 HI.out.2.1 HI.out.2.2.1 HI.out.2.2.2 rfl (by omega) _ _ _ (by rfl) hown1 _ 1 _ (entC (d, nm, id)) (by rfl) hrow (entC_all _) (by unfold maxLen; omega) (by omega) hB1.size ?_
        intro A2 c2 u2 hown2 hb2
        have hB2 : Below w.heap.size w u2 := hB1.trans hb2
        refine hK.out _ _ (fun _ => HKP.out _ hB2) (fun hS => ?_)
        replace hS := hS (by decide)
        clear hK K
        try simp only [Act.put, List.setIfInBounds_toArray, List.set_cons_zero, List.set_cons_succ]
        refine wpAnyL_ready (rs := [21]) (by kernel_rfl) (by simp) ?_
        refine AllReadyL.cons (o := ?o24) ?ho24 (fun K hK => ?_) AllReadyL.nil
        case ho24 => simp only [List.getElem?_toArray, List.getElem?_cons_succ, List.getElem?_cons_zero]; rfl
        refine step_append_rows (by rfl) (.tmp 68) (.tmp 74) 98 (by rfl) w.heap.size 119 i _ 3 32 Tryz.underlying98 HI.out.1 HI.out.2.1 HI.out.2.2.1 HI.out.2.2.2 rfl (by omega) _ _ _ (by rfl) hown2 _ (n - k) _ ((E.drop k).flatMap entC) (by rfl) (HSRC.out _ hB2).2 (entC_one _) (by unfold maxLen; omega) (by omega) hB2.size ?_
        intro A3 c3 u3 hown3 hb3
        have hB3 : Below w.heap.size w u3 := hB2.trans hb3
        refine hK.out _ _ (fun _ => HKP.out _ hB3) (fun hS => ?_)
        replace hS := hS (by decide)
        clear hK K
        try simp only [Act.put, List.setIfInBounds_toArray, List.set_cons_zero, List.set_cons_succ]
        refine wpAnyL_take (i := 22) (oi := ?oi25) (v := ?v25) ?hi25 (by kernel_rfl) (by kernel_rfl) (by kernel_rfl) (by kernel_rfl) (by kernel_rfl) ?hq25 (Or.inl ⟨?hw25, ?hy25⟩) hS ?rest25
        case hi25 => simp only [List.getElem?_toArray, List.getElem?_cons_succ, List.getElem?_cons_zero]; rfl
        case hq25 => exact fun _ _ _ h => h
        case hw25 => rfl
        case hy25 => intro w hSw; (try dsimp only at hSw); go_simp; (try with_reducible rfl)
        try simp only [Act.put, List.setIfInBounds_toArray, List.set_cons_zero, List.set_cons_succ]
        refine wpAnyL_take (i := 23) (oi := ?oi26) (v := ?v26) ?hi26 (by kernel_rfl) (by kernel_rfl) (by kernel_rfl) (by kernel_rfl) (by kernel_rfl) ?hq26 (Or.inl ⟨?hw26, ?hy26⟩) hS ?rest26
        case hi26 => simp only [List.getElem?_toArray, List.getElem?_cons_succ, List.getElem?_cons_zero]; rfl
        case hq26 => exact fun _ _ _ h => h
        case hw26 => rfl
        case hy26 => intro w hSw; (try dsimp only at hSw); go_simp; (try with_reducible rfl)
        try simp only [Act.put, List.setIfInBounds_toArray, List.set_cons_zero, List.set_cons_succ]
        refine wpAnyL_ready (rs := [24]) (by kernel_rfl) (by simp) ?_
        refine AllReadyL.cons (o := ?o27) ?ho27 (fun K hK => ?_) AllReadyL.nil
        case ho27 => simp only [List.getElem?_toArray, List.getElem?_cons_succ, List.getElem?_cons_zero]; rfl
        go_simp
        refine hK.out _ _ (fun h => absurd rfl h) (fun hS => ?_)
        clear hS hK K
        try simp only [Act.put, List.setIfInBounds_toArray, List.set_cons_zero, List.set_cons_succ]
        refine wpAnyL_done (by kernel_rfl) ?_ _
        refine NoPanic.normal ?_
        go_wp2
        all_goals (
          go_end0
          exact add_end HADD.out HL.out hkn hB3 (by omega) (by simp) hown3 (by unfold maxLen; omega))
      case wab =>
        go_simp
        refine hK.out _ _ (fun _ => HKP.out _ (((Below.refl _ _).drew.alloc (Nat.le_refl _) _).alloc (by simp <;> omega) _)) (fun hS => ?_)
        replace hS := hS (by decide)
        clear hK K
        try simp only [Act.put, List.setIfInBounds_toArray, List.set_cons_zero, List.set_cons_succ]
        refine wpAnyL_ready (rs := [8]) (by kernel_rfl) (by simp) ?_
        refine AllReadyL.cons (o := ?o28) ?ho28 (fun K hK => ?_) AllReadyL.nil
        case ho28 => simp only [List.getElem?_toArray, List.getElem?_cons_succ, List.getElem?_cons_zero]; rfl
        refine step_append_grown (by rfl) (.tmp 55) (.tmp 61) 98 (by rfl) w.heap.size 119 i _ 3 32 Tryz.underlying98 HI.out.1 HI.out.2.1 HI.out.2.2.1 HI.out.2.2.2 rfl (by omega) _ 0 [] (by rfl) (own_new (two_new w _ _).1 (Nat.le_refl _)) _ k _ ((E.take k).flatMap entC) (by rfl) (HSRC.out _ (((Below.refl _ _).drew.alloc (Nat.le_refl _) _).alloc (by simp <;> omega) _)).1 (entC_one _) (by unfold maxLen; omega) (by omega) (by simp <;> omega) ?_
        intro A1 c1 u1 hown1 hb1 hg1
        have hB1 : Below w.heap.size w u1 := (((Below.refl _ _).drew.alloc (Nat.le_refl _) _).alloc (by simp <;> omega) _).trans hb1
        have hrow := (row_blk (vs := entC (d, nm, id)) (two_new w (.cells #[] 119) (.cells (entC (d, nm, id)).toArray 119)).2 (by simp [entC, maxLen])).grown hg1 (fun b hb hbw => by subst hb; simp [Value.ownBlock])
        refine hK.out _ _ (fun _ => HKP.out _ hB1) (fun hS => ?_)
        replace hS := hS (by decide)
        clear hK K
        try simp only [Act.put, List.setIfInBounds_toArray, List.set_cons_zero, List.set_cons_succ]
        refine wpAnyL_ready (rs := [14]) (by kernel_rfl) (by simp) ?_
        refine AllReadyL.cons (o := ?o29) ?ho29 (fun K hK => ?_) AllReadyL.nil
        case ho29 => simp only [List.getElem?_toArray, List.getElem?_cons_succ, List.getElem?_cons_zero]; rfl
        refine step_append_rows (by rfl) (.tmp 62) (.tmp 67) 98 (by rfl) w.heap.size 119 i _ 3 32 Tryz.underlying98 HI.out.1 HI.out.2.1 HI.out.2.2.1 HI.out.2.2.2 rfl (by omega) _ _ _ (by rfl) hown1 _ 1 _ (entC (d, nm, id)) (by rfl) hrow (entC_all _) (by unfold maxLen; omega) (by omega) hB1.size ?_
        intro A2 c2 u2 hown2 hb2
        have hB2 : Below w.heap.size w u2 := hB1.trans hb2
        refine hK.out _ _ (fun _ => HKP.out _ hB2) (fun hS => ?_)
        replace hS := hS (by decide)
        clear hK K
        try simp only [Act.put, List.setIfInBounds_toArray, List.set_cons_zero, List.set_cons_succ]
        refine wpAnyL_ready (rs := [21]) (by kernel_rfl) (by simp) ?_
        refine AllReadyL.cons (o := ?o30) ?ho30 (fun K hK => ?_) AllReadyL.nil
        case ho30 => simp only [List.getElem?_toArray, List.getElem?_cons_succ, List.getElem?_cons_zero]; rfl
        refine step_append_rows (by rfl) (.tmp 68) (.tmp 74) 98 (by rfl) w.heap.size 119 i _ 3 32 Tryz.underlying98 HI.out.1 HI.out.2.1 HI.out.2.2.1 HI.out.2.2.2 rfl (by omega) _ _ _ (by rfl) hown2 _ (n - k) _ ((E.drop k).flatMap entC) (by rfl) (HSRC.out _ hB2).2 (entC_one _) (by unfold maxLen; omega) (by omega) hB2.size ?_
        intro A3 c3 u3 hown3 hb3
        have hB3 : Below w.heap.size w u3 := hB2.trans hb3
        refine hK.out _ _ (fun _ => HKP.out _ hB3) (fun hS => ?_)
        replace hS := hS (by decide)
        clear hK K
        try simp only [Act.put, List.setIfInBounds_toArray, List.set_cons_zero, List.set_cons_succ]
        refine wpAnyL_take (i := 22) (oi := ?oi31) (v := ?v31) ?hi31 (by kernel_rfl) (by kernel_rfl) (by kernel_rfl) (by kernel_rfl) (by kernel_rfl) ?hq31 (Or.inl ⟨?hw31, ?hy31⟩) hS ?rest31
        case hi31 => simp only [List.getElem?_toArray, List.getElem?_cons_succ, List.getElem?_cons_zero]; rfl
        case hq31 => exact fun _ _ _ h => h
        case hw31 => rfl
        case hy31 => intro w hSw; (try dsimp only at hSw); go_simp; (try with_reducible rfl)
        try simp only [Act.put, List.setIfInBounds_toArray, List.set_cons_zero, List.set_cons_succ]
        refine wpAnyL_take (i := 23) (oi := ?oi32) (v := ?v32) ?hi32 (by kernel_rfl) (by kernel_rfl) (by kernel_rfl) (by kernel_rfl) (by kernel_rfl) ?hq32 (Or.inl ⟨?hw32, ?hy32⟩) hS ?rest32
        case hi32 => simp only [List.getElem?_toArray, List.getElem?_cons_succ, List.getElem?_cons_zero]; rfl
        case hq32 => exact fun _ _ _ h => h
        case hw32 => rfl
        case hy32 => intro w hSw; (try dsimp only at hSw); go_simp; (try with_reducible rfl)
        try simp only [Act.put, List.setIfInBounds_toArray, List.set_cons_zero, List.set_cons_succ]
        refine wpAnyL_ready (rs := [24]) (by kernel_rfl) (by simp) ?_
        refine AllReadyL.cons (o := ?o33) ?ho33 (fun K hK => ?_) AllReadyL.nil
        case ho33 => simp only [List.getElem?_toArray, List.getElem?_cons_succ, List.getElem?_cons_zero]; rfl
        go_simp
        refine hK.out _ _ (fun h => absurd rfl h) (fun hS => ?_)
        clear hS hK K
        try simp only [Act.put, List.setIfInBounds_toArray, List.set_cons_zero, List.set_cons_succ]
        refine wpAnyL_done (by kernel_rfl) ?_ _
        refine NoPanic.normal ?_
        go_wp2
        all_goals (
          go_end0
          exact add_end HADD.out HL.out hkn hB3 (by omega) (by simp) hown3 (by unfold maxLen; omega))
    case wb =>
      go_simp
      refine hK.out _ _ (fun _ => HKP.out _ ((Below.refl _ _).drew.alloc (Nat.le_refl _) _)) (fun hS => ?_)
      replace hS := hS (by decide)
      clear hK K
      try simp only [Act.put, List.setIfInBounds_toArray, List.set_cons_zero, List.set_cons_succ]
      refine wpAnyL_ready (rs := [1]) (by kernel_rfl) (by simp) ?_
      refine AllReadyL.cons (o := ?o34) ?ho34 (fun K hK => ?_) AllReadyL.nil
      case ho34 => simp only [List.getElem?_toArray, List.getElem?_cons_succ, List.getElem?_cons_zero]; rfl
      go_simp
      refine hK.out _ _ (fun _ => HKP.out _ (((Below.refl _ _).drew.alloc (Nat.le_refl _) _).alloc (by simp <;> omega) _)) (fun hS => ?_)
      replace hS := hS (by decide)
      clear hK K
      try simp only [Act.put, List.setIfInBounds_toArray, List.set_cons_zero, List.set_cons_succ]
      refine wpAnyL_ready (rs := [8]) (by kernel_rfl) (by simp) ?_
      refine AllReadyL.cons (o := ?o35) ?ho35 (fun K hK => ?_) AllReadyL.nil
      case ho35 => simp only [List.getElem?_toArray, List.getElem?_cons_succ, List.getElem?_cons_zero]; rfl
      refine step_append_grown (by rfl) (.tmp 55) (.tmp 61) 98 (by rfl) w.heap.size 119 i _ 3 32 Tryz.underlying98 HI.out.1 HI.out.2.1 HI.out.2.2.1 HI.out.2.2.2 rfl (by omega) _ 0 [] (by rfl) (own_new (two_new w _ _).2 (by omega)) _ k _ ((E.take k).flatMap entC) (by rfl) (HSRC.out _ (((Below.refl _ _).drew.alloc (Nat.le_refl _) _).alloc (by simp <;> omega) _)).1 (entC_one _) (by unfold maxLen; omega) (by omega) (by simp <;> omega) ?_
      intro A1 c1 u1 hown1 hb1 hg1
      have hB1 : Below w.heap.size w u1 := (((Below.refl _ _).drew.alloc (Nat.le_refl _) _).alloc (by simp <;> omega) _).trans hb1
      have hrow := (row_blk (vs := entC (d, nm, id)) (two_new w (.cells (entC (d, nm, id)).toArray 119) (.cells #[] 119)).1 (by simp [entC, maxLen])).grown hg1 (fun b hb hbw => by subst hb; simp [Value.ownBlock])
      refine hK.out _ _ (fun _ => HKP.out _ hB1) (fun hS => ?_)
      replace hS := hS (by decide)
      clear hK K
      try simp only [Act.put, List.setIfInBounds_toArray, List.set_cons_zero, List.set_cons_succ]
      refine wpAnyL_ready (rs := [14]) (by kernel_rfl) (by simp) ?_
      refine AllReadyL.cons (o := ?o36) ?ho36 (fun K hK => ?_) AllReadyL.nil
      case ho36 => simp only [List.getElem?_toArray, List.getElem?_cons_succ, List.getElem?_cons_zero]; rfl
      refine step_append_rows (by rfl) (.tmp 62) (.tmp 67) 98 (by rfl) w.heap.size 119 i _ 3 32 Tryz.underlying98 HI.out.1 HI.out.2.1 HI.out.2.2.1 HI.out.2.2.2 rfl (by omega) _ _ _ (by rfl) hown1 _ 1 _ (entC (d, nm, id)) (by rfl) hrow (entC_all _) (by unfold maxLen; omega) (by omega) hB1.size ?_
      intro A2 c2 u2 hown2 hb2
      have hB2 : Below w.heap.size w u2 := hB1.trans hb2
      refine hK.out _ _ (fun _ => HKP.out _ hB2) (fun hS => ?_)
      replace hS := hS (by decide)
      clear hK K
      try simp only [Act.put, List.setIfInBounds_toArray, List.set_cons_zero, List.set_cons_succ]
      refine wpAnyL_ready (rs := [21]) (by kernel_rfl) (by simp) ?_
      refine AllReadyL.cons (o := ?o37) ?ho37 (fun K hK => ?_) AllReadyL.nil
      case ho37 => simp only [List.getElem?_toArray, List.getElem?_cons_succ, List.getElem?_cons_zero]; rfl
      refine step_append_rows (by rfl) (.tmp 68) (.tmp 74) 98 (by rfl) w.heap.size 119 i _ 3 32 Tryz.underlying98 HI.out.1 HI.out.2.1 HI.out.2.2.1 HI.out.2.2.2 rfl (by omega) _ _ _ (by rfl) hown2 _ (n - k) _ ((E.drop k).flatMap entC) (by rfl) (HSRC.out _ hB2).2 (entC_one _) (by unfold maxLen; omega) (by omega) hB2.size ?_
      intro A3 c3 u3 hown3 hb3
      have hB3 : Below w.heap.size w u3 := hB2.trans hb3
      refine hK.out _ _ (fun _ => HKP.out _ hB3) (fun hS => ?_)
      replace hS := hS (by decide)
      clear hK K
      try simp only [Act.put, List.setIfInBounds_toArray, List.set_cons_zero, List.set_cons_succ]
      refine wpAnyL_take (i := 22) (oi := ?oi38) (v := ?v38) ?hi38 (by kernel_rfl) (by kernel_rfl) (by kernel_rfl) (by kernel_rfl) (by kernel_rfl) ?hq38 (Or.inl ⟨?hw38, ?hy38⟩) hS ?rest38
      case hi38 => simp only [List.getElem?_toArray, List.getElem?_cons_succ, List.getElem?_cons_zero]; rfl
      case hq38 => exact fun _ _ _ h => h
      case hw38 => rfl
      case hy38 => intro w hSw; (try dsimp only at hSw); go_simp; (try with_reducible rfl)
      try simp only [Act.put, List.setIfInBounds_toArray, List.set_cons_zero, List.set_cons_succ]
      refine wpAnyL_take (i := 23) (oi := ?oi39) (v := ?v39) ?hi39 (by kernel_rfl) (by kernel_rfl) (by kernel_rfl) (by kernel_rfl) (by kernel_rfl) ?hq39 (Or.inl ⟨?hw39, ?hy39⟩) hS ?rest39
      case hi39 => simp only [List.getElem?_toArray, List.getElem?_cons_succ, List.getElem?_cons_zero]; rfl
      case hq39 => exact fun _ _ _ h => h
      case hw39 => rfl
      case hy39 => intro w hSw; (try dsimp only at hSw); go_simp; (try with_reducible rfl)
      try simp only [Act.put, List.setIfInBounds_toArray, List.set_cons_zero, List.set_cons_succ]
      refine wpAnyL_ready (rs := [24]) (by kernel_rfl) (by simp) ?_
      refine AllReadyL.cons (o := ?o40) ?ho40 (fun K hK => ?_) AllReadyL.nil
      case ho40 => simp only [List.getElem?_toArray, List.getElem?_cons_succ, List.getElem?_cons_zero]; rfl
      go_simp
      refine hK.out _ _ (fun h => absurd rfl h) (fun hS => ?_)
      clear hS hK K
      try simp only [Act.put, List.setIfInBounds_toArray, List.set_cons_zero, List.set_cons_succ]
      refine wpAnyL_done (by kernel_rfl) ?_ _
      refine NoPanic.normal ?_
      go_wp2
      all_goals (
        go_end0
        exact add_end HADD.out HL.out hkn hB3 (by omega) (by simp) hown3 (by unfold maxLen; omega))
set_option maxHeartbeats 4000000 in
theorem radd_nil (d : Int) (nm : Nm) (id : Int) (w : World) (hc2 : w.cell? ⟨r, 2, none⟩ = some (.slice none 0 0)) (hrw : r < w.heap.size) (hfr : w.frozen? ⟨r, 2, none⟩ = false) :
    Calls Tryz.prog 65 #[ptr r, .int .i64 d, .string (strOf nm), .int .i64 id] w (EntSet w r (addE [] d nm id)) := by
  obtain ⟨i, hi, hz, h3, h32⟩ := info_parts entInfo
  have HI := Lib.hid (And.intro hi (And.intro hz (And.intro h3 h32)))
  have HKP : Hid (∀ w1, Below w.heap.size w w1 → w1.cell? ⟨r, 2, none⟩ = some (.slice none 0 0) ∧ w1.frozen? ⟨r, 2, none⟩ = false) := fun w1 hb => ⟨by rw [hb.cell (p := ⟨r, 2, none⟩) hrw]; exact hc2, by rw [hb.frozen (p := ⟨r, 2, none⟩) hrw]; exact hfr⟩
  have HSRC : Hid (∀ w1 : World, RowAt (fun _ => True) w1 none (0 * 3) [] ∧ RowAt (fun _ => True) w1 none (0 * 3) []) := fun w1 => ⟨RowAt.zero _ _ _ rfl rfl, RowAt.zero _ _ _ rfl rfl⟩
  clear hi hz h3 h32
  go_enter Tryz.func65, Tryz.ntmps65
  go_upto_block 0 with (fail)
  go_cut [8] from 9 to 53 (fun i wx => i = .int .i64 0 ∧ w = wx)
  case first =>
    go_wp2_with fail
    go_loop [8] (fun i => i = .int .i64 0) (fun _ => 0)
    case atStart => rfl
    case round =>
      subst hrel
      go_wp2
      go_meet
      exact ⟨rfl, rfl⟩
  case rest =>
    obtain ⟨rfl, rfl⟩ := hcut
    go_wp2
    refine wp_region_noPanic ?_
    refine wp_region_L (last := 24) (S := (fun w' => w'.cell? ⟨r, 2, none⟩ = some (.slice none 0 0) ∧ w'.frozen? ⟨r, 2, none⟩ = false)) (by kernel_rfl) ?_ (fun hS => ?_)
    · exact HKP.out _ (Below.refl _ _).drew
    refine wpAnyL_take (i := 0) (oi := ?oi41) (v := ?v41) ?hi41 (by kernel_rfl) (by kernel_rfl) (by kernel_rfl) (by kernel_rfl) (by kernel_rfl) ?hq41 (Or.inl ⟨?hw41, ?hy41⟩) hS ?rest41
    case hi41 => simp only [List.getElem?_toArray, List.getElem?_cons_succ, List.getElem?_cons_zero]; rfl
    case hq41 => exact fun _ _ _ h => h
    case hw41 => rfl
    case hy41 => intro w hSw; (try dsimp only at hSw); go_simp; (try with_reducible rfl)
    try simp only [Act.put, List.setIfInBounds_toArray, List.set_cons_zero, List.set_cons_succ]
    refine wpAnyL_take (i := 2) (oi := ?oi42) (v := ?v42) ?hi42 (by kernel_rfl) (by kernel_rfl) (by kernel_rfl) (by kernel_rfl) (by kernel_rfl) ?hq42 (Or.inl ⟨?hw42, ?hy42⟩) hS ?rest42
    case hi42 => simp only [List.getElem?_toArray, List.getElem?_cons_succ, List.getElem?_cons_zero]; rfl
    case hq42 => exact fun _ _ _ h => h
    case hw42 => rfl
    case hy42 => intro w hSw; (try dsimp only at hSw); go_simp; (try with_reducible rfl)
    try simp only [Act.put, List.setIfInBounds_toArray, List.set_cons_zero, List.set_cons_succ]
    refine wpAnyL_take (i := 3) (oi := ?oi43) (v := ?v43) ?hi43 (by kernel_rfl) (by kernel_rfl) (by kernel_rfl) (by kernel_rfl) (by kernel_rfl) ?hq43 (Or.inl ⟨?hw43, ?hy43⟩) hS ?rest43
    case hi43 => simp only [List.getElem?_toArray, List.getElem?_cons_succ, List.getElem?_cons_zero]; rfl
    case hq43 => exact fun _ _ _ h => h
    case hw43 => rfl
    case hy43 => intro w hSw; (try dsimp only at hSw); go_simp; (try with_reducible rfl)
    try simp only [Act.put, List.setIfInBounds_toArray, List.set_cons_zero, List.set_cons_succ]
    refine wpAnyL_take (i := 4) (oi := ?oi44) (v := ?v44) ?hi44 (by kernel_rfl) (by kernel_rfl) (by kernel_rfl) (by kernel_rfl) (by kernel_rfl) ?hq44 (Or.inl ⟨?hw44, ?hy44⟩) hS ?rest44
    case hi44 => simp only [List.getElem?_toArray, List.getElem?_cons_succ, List.getElem?_cons_zero]; rfl
    case hq44 => exact fun _ _ _ h => h
    case hw44 => rfl
    case hy44 => intro w hSw; (try dsimp only at hSw); go_simp; (try with_reducible rfl)
    try simp only [Act.put, List.setIfInBounds_toArray, List.set_cons_zero, List.set_cons_succ]
    refine wpAnyL_take (i := 5) (oi := ?oi45) (v := ?v45) ?hi45 (by kernel_rfl) (by kernel_rfl) (by kernel_rfl) (by kernel_rfl) (by kernel_rfl) ?hq45 (Or.inl ⟨?hw45, ?hy45⟩) hS ?rest45
    case hi45 => simp only [List.getElem?_toArray, List.getElem?_cons_succ, List.getElem?_cons_zero]; rfl
    case hq45 => exact fun _ _ _ h => h
    case hw45 => rfl
    case hy45 => intro w hSw; (try dsimp only at hSw); go_simp; (try with_reducible rfl)
    try simp only [Act.put, List.setIfInBounds_toArray, List.set_cons_zero, List.set_cons_succ]
    refine wpAnyL_take (i := 6) (oi := ?oi46) (v := ?v46) ?hi46 (by kernel_rfl) (by kernel_rfl) (by kernel_rfl) (by kernel_rfl) (by kernel_rfl) ?hq46 (Or.inl ⟨?hw46, ?hy46⟩) hS ?rest46
    case hi46 => simp only [List.getElem?_toArray, List.getElem?_cons_succ, List.getElem?_cons_zero]; rfl
    case hq46 => exact fun _ _ _ h => h
    case hw46 => rfl
    case hy46 => intro w hSw; (try dsimp only at hSw); go_simp; (try with_reducible rfl)
    try simp only [Act.put, List.setIfInBounds_toArray, List.set_cons_zero, List.set_cons_succ]
    refine wpAnyL_take (i := 7) (oi := ?oi47) (v := ?v47) ?hi47 (by kernel_rfl) (by kernel_rfl) (by kernel_rfl) (by kernel_rfl) (by kernel_rfl) ?hq47 (Or.inl ⟨?hw47, ?hy47⟩) hS ?rest47
    case hi47 => simp only [List.getElem?_toArray, List.getElem?_cons_succ, List.getElem?_cons_zero]; rfl
    case hq47 => exact fun _ _ _ h => h
    case hw47 => rfl
    case hy47 => intro w hSw; (try dsimp only at hSw); go_simp; (try with_reducible rfl)
    try simp only [Act.put, List.setIfInBounds_toArray, List.set_cons_zero, List.set_cons_succ]
    refine wpAnyL_take (i := 9) (oi := ?oi48) (v := ?v48) ?hi48 (by kernel_rfl) (by kernel_rfl) (by kernel_rfl) (by kernel_rfl) (by kernel_rfl) ?hq48 (Or.inl ⟨?hw48, ?hy48⟩) hS ?rest48
    case hi48 => simp only [List.getElem?_toArray, List.getElem?_cons_succ, List.getElem?_cons_zero]; rfl
    case hq48 => exact fun _ _ _ h => h
    case hw48 => rfl
    case hy48 => intro w hSw; (try dsimp only at hSw); go_simp; (try with_reducible rfl)
    try simp only [Act.put, List.setIfInBounds_toArray, List.set_cons_zero, List.set_cons_succ]
    refine wpAnyL_take (i := 10) (oi := ?oi49) (v := ?v49) ?hi49 (by kernel_rfl) (by kernel_rfl) (by kernel_rfl) (by kernel_rfl) (by kernel_rfl) ?hq49 (Or.inl ⟨?hw49, ?hy49⟩) hS ?rest49
    case hi49 => simp only [List.getElem?_toArray, List.getElem?_cons_succ, List.getElem?_cons_zero]; rfl
    case hq49 => exact fun _ _ _ h => h
    case hw49 => rfl
    case hy49 => intro w hSw; (try dsimp only at hSw); go_simp; (try with_reducible rfl)
    try simp only [Act.put, List.setIfInBounds_toArray, List.set_cons_zero, List.set_cons_succ]
    refine wpAnyL_take (i := 11) (oi := ?oi50) (v := ?v50) ?hi50 (by kernel_rfl) (by kernel_rfl) (by kernel_rfl) (by kernel_rfl) (by kernel_rfl) ?hq50 (Or.inl ⟨?hw50, ?hy50⟩) hS ?rest50
    case hi50 => simp only [List.getElem?_toArray, List.getElem?_cons_succ, List.getElem?_cons_zero]; rfl
    case hq50 => exact fun _ _ _ h => h
    case hw50 => rfl
    case hy50 => intro w hSw; (try dsimp only at hSw); go_simp; (try with_reducible rfl)
    try simp only [Act.put, List.setIfInBounds_toArray, List.set_cons_zero, List.set_cons_succ]
    refine wpAnyL_take (i := 12) (oi := ?oi51) (v := ?v51) ?hi51 (by kernel_rfl) (by kernel_rfl) (by kernel_rfl) (by kernel_rfl) (by kernel_rfl) ?hq51 (Or.inl ⟨?hw51, ?hy51⟩) hS ?rest51
    case hi51 => simp only [List.getElem?_toArray, List.getElem?_cons_succ, List.getElem?_cons_zero]; rfl
    case hq51 => exact fun _ _ _ h => h
    case hw51 => rfl
    case hy51 => intro w hSw; (try dsimp only at hSw); go_simp; (try with_reducible rfl)
    try simp only [Act.put, List.setIfInBounds_toArray, List.set_cons_zero, List.set_cons_succ]
    refine wpAnyL_take (i := 15) (oi := ?oi52) (v := ?v52) ?hi52 (by kernel_rfl) (by kernel_rfl) (by kernel_rfl) (by kernel_rfl) (by kernel_rfl) ?hq52 (Or.inl ⟨?hw52, ?hy52⟩) hS ?rest52
    case hi52 => simp only [List.getElem?_toArray, List.getElem?_cons_succ, List.getElem?_cons_zero]; rfl
    case hq52 => exact fun _ _ _ h => h
    case hw52 => rfl
    case hy52 => intro w hSw; (try dsimp only at hSw); go_simp; (try with_reducible rfl)
    try simp only [Act.put, List.setIfInBounds_toArray, List.set_cons_zero, List.set_cons_succ]
    refine wpAnyL_take (i := 16) (oi := ?oi53) (v := ?v53) ?hi53 (by kernel_rfl) (by kernel_rfl) (by kernel_rfl) (by kernel_rfl) (by kernel_rfl) ?hq53 (Or.inl ⟨?hw53, ?hy53⟩) hS ?rest53
    case hi53 => simp only [List.getElem?_toArray, List.getElem?_cons_succ, List.getElem?_cons_zero]; rfl
    case hq53 => exact fun _ _ _ h => h
    case hw53 => rfl
    case hy53 => intro w hSw; (try dsimp only at hSw); go_simp; (try with_reducible rfl)
    try simp only [Act.put, List.setIfInBounds_toArray, List.set_cons_zero, List.set_cons_succ]
    refine wpAnyL_take (i := 17) (oi := ?oi54) (v := ?v54) ?hi54 (by kernel_rfl) (by kernel_rfl) (by kernel_rfl) (by kernel_rfl) (by kernel_rfl) ?hq54 (Or.inl ⟨?hw54, ?hy54⟩) hS ?rest54
    case hi54 => simp only [List.getElem?_toArray, List.getElem?_cons_succ, List.getElem?_cons_zero]; rfl
    case hq54 => exact fun _ _ _ h => h
    case hw54 => rfl
    case hy54 => intro w hSw; (try dsimp only at hSw); go_simp; (try with_reducible rfl)
    try simp only [Act.put, List.setIfInBounds_toArray, List.set_cons_zero, List.set_cons_succ]
    refine wpAnyL_take (i := 18) (oi := ?oi55) (v := ?v55) ?hi55 (by kernel_rfl) (by kernel_rfl) (by kernel_rfl) (by kernel_rfl) (by kernel_rfl) ?hq55 (Or.inl ⟨?hw55, ?hy55⟩) hS ?rest55
    case hi55 => simp only [List.getElem?_toArray, List.getElem?_cons_succ, List.getElem?_cons_zero]; rfl
    case hq55 => exact fun _ _ _ h => h
    case hw55 => rfl
    case hy55 => intro w hSw; (try dsimp only at hSw); go_simp; (try with_reducible rfl)
    try simp only [Act.put, List.setIfInBounds_toArray, List.set_cons_zero, List.set_cons_succ]
    refine wpAnyL_take (i := 19) (oi := ?oi56) (v := ?v56) ?hi56 (by kernel_rfl) (by kernel_rfl) (by kernel_rfl) (by kernel_rfl) (by kernel_rfl) ?hq56 (Or.inl ⟨?hw56, ?hy56⟩) hS ?rest56
    case hi56 => simp only [List.getElem?_toArray, List.getElem?_cons_succ, List.getElem?_cons_zero]; rfl
    case hq56 => exact fun _ _ _ h => h
    case hw56 => rfl
    case hy56 => intro w hSw; (try dsimp only at hSw); go_simp; (try with_reducible rfl)
    try simp only [Act.put, List.setIfInBounds_toArray, List.set_cons_zero, List.set_cons_succ]
    refine wpAnyL_take (i := 20) (oi := ?oi57) (v := ?v57) ?hi57 (by kernel_rfl) (by kernel_rfl) (by kernel_rfl) (by kernel_rfl) (by kernel_rfl) ?hq57 (Or.inl ⟨?hw57, ?hy57⟩) hS ?rest57
    case hi57 => simp only [List.getElem?_toArray, List.getElem?_cons_succ, List.getElem?_cons_zero]; rfl
    case hq57 => exact fun _ _ _ h => h
    case hw57 => rfl
    case hy57 => intro w hSw; (try dsimp only at hSw); go_simp; (try with_reducible rfl)
    try simp only [Act.put, List.setIfInBounds_toArray, List.set_cons_zero, List.set_cons_succ]
    refine wpAnyL_ready (rs := [1, 13]) (by kernel_rfl) (by simp) ?_
    refine AllReadyL.cons (o := ?o58) ?ho58 (fun K hK => ?wa) (AllReadyL.cons (o := ?o59) ?ho59 (fun K hK => ?wb) AllReadyL.nil)
    case ho58 => simp only [List.getElem?_toArray, List.getElem?_cons_succ, List.getElem?_cons_zero]; rfl
    case ho59 => simp only [List.getElem?_toArray, List.getElem?_cons_succ, List.getElem?_cons_zero]; rfl
    case wa =>
      go_simp
      refine hK.out _ _ (fun _ => HKP.out _ ((Below.refl _ _).drew.alloc (Nat.le_refl _) _)) (fun hS => ?_)
      replace hS := hS (by decide)
      clear hK K
      try simp only [Act.put, List.setIfInBounds_toArray, List.set_cons_zero, List.set_cons_succ]
      refine wpAnyL_ready (rs := [8, 13]) (by kernel_rfl) (by simp) ?_
      refine AllReadyL.cons (o := ?o60) ?ho60 (fun K hK => ?waa) (AllReadyL.cons (o := ?o61) ?ho61 (fun K hK => ?wab) AllReadyL.nil)
      case ho60 => simp only [List.getElem?_toArray, List.getElem?_cons_succ, List.getElem?_cons_zero]; rfl
      case ho61 => simp only [List.getElem?_toArray, List.getElem?_cons_succ, List.getElem?_cons_zero]; rfl
      case waa =>
        refine step_append_rows (by rfl) (.tmp 55) (.tmp 61) 98 (by rfl) w.heap.size 119 i _ 3 32 Tryz.underlying98 HI.out.1 HI.out.2.1 HI.out.2.2.1 HI.out.2.2.2 rfl (by omega) _ 0 [] (by rfl) (own_new (MapKept.heap_alloc w.drew _).1 (Nat.le_refl _)) _ 0 _ [] (by rfl) (HSRC.out _).1 (fun u hu => by cases hu) (by unfold maxLen; omega) (by omega) (by simp <;> omega) ?_
        intro A1 c1 u1 hown0 hb1
        have hB0 : Below w.heap.size w u1 := ((Below.refl _ _).drew.alloc (Nat.le_refl _) _).trans hb1
        refine hK.out _ _ (fun _ => HKP.out _ hB0) (fun hS => ?_)
        replace hS := hS (by decide)
        clear hK K
        try simp only [Act.put, List.setIfInBounds_toArray, List.set_cons_zero, List.set_cons_succ]
        refine wpAnyL_ready (rs := [13]) (by kernel_rfl) (by simp) ?_
        refine AllReadyL.cons (o := ?o62) ?ho62 (fun K hK => ?_) AllReadyL.nil
        case ho62 => simp only [List.getElem?_toArray, List.getElem?_cons_succ, List.getElem?_cons_zero]; rfl
        go_simp
        refine hK.out _ _ (fun _ => HKP.out _ (hB0.alloc hB0.size _)) (fun hS => ?_)
        replace hS := hS (by decide)
        clear hK K
        try simp only [Act.put, List.setIfInBounds_toArray, List.set_cons_zero, List.set_cons_succ]
        have hown1 := own_below hown0 ((Below.refl _ _).alloc (Nat.le_refl _) (.cells (entC (d, nm, id)).toArray 119))
        have hrow := new_row (w := u1) (entC (d, nm, id)) 119 (by simp [entC, maxLen])
        have hB1 : Below w.heap.size w (u1.alloc (.cells (entC (d, nm, id)).toArray 119)) := hB0.alloc hB0.size _
        refine wpAnyL_ready (rs := [14]) (by kernel_rfl) (by simp) ?_
        refine AllReadyL.cons (o := ?o63) ?ho63 (fun K hK => ?_) AllReadyL.nil
        case ho63 => simp only [List.getElem?_toArray, List.getElem?_cons_succ, List.getElem?_cons_zero]; rfl
        refine step_append_rows (by rfl) (.tmp 62) (.tmp 67) 98 (by rfl) w.heap.size 119 i _ 3 32 Tryz.underlying98 HI.out.1 HI.out.2.1 HI.out.2.2.1 HI.out.2.2.2 rfl (by omega) _ _ _ (by rfl) hown1 _ 1 _ (entC (d, nm, id)) (by rfl) hrow (entC_all _) (by unfold maxLen; omega) (by omega) hB1.size ?_
        intro A2 c2 u2 hown2 hb2
        have hB2 : Below w.heap.size w u2 := hB1.trans hb2
        refine hK.out _ _ (fun _ => HKP.out _ hB2) (fun hS => ?_)
        replace hS := hS (by decide)
        clear hK K
        try simp only [Act.put, List.setIfInBounds_toArray, List.set_cons_zero, List.set_cons_succ]
        refine wpAnyL_ready (rs := [21]) (by kernel_rfl) (by simp) ?_
        refine AllReadyL.cons (o := ?o64) ?ho64 (fun K hK => ?_) AllReadyL.nil
        case ho64 => simp only [List.getElem?_toArray, List.getElem?_cons_succ, List.getElem?_cons_zero]; rfl
        refine step_append_rows (by rfl) (.tmp 68) (.tmp 74) 98 (by rfl) w.heap.size 119 i _ 3 32 Tryz.underlying98 HI.out.1 HI.out.2.1 HI.out.2.2.1 HI.out.2.2.2 rfl (by omega) _ _ _ (by rfl) hown2 _ 0 _ [] (by rfl) (HSRC.out _).2 (fun u hu => by cases hu) (by unfold maxLen; omega) (by omega) hB2.size ?_
        intro A3 c3 u3 hown3 hb3
        have hB3 : Below w.heap.size w u3 := hB2.trans hb3
        refine hK.out _ _ (fun _ => HKP.out _ hB3) (fun hS => ?_)
        replace hS := hS (by decide)
        clear hK K
        try simp only [Act.put, List.setIfInBounds_toArray, List.set_cons_zero, List.set_cons_succ]
        refine wpAnyL_take (i := 22) (oi := ?oi65) (v := ?v65) ?hi65 (by kernel_rfl) (by kernel_rfl) (by kernel_rfl) (by kernel_rfl) (by kernel_rfl) ?hq65 (Or.inl ⟨?hw65, ?hy65⟩) hS ?rest65
        case hi65 => simp only [List.getElem?_toArray, List.getElem?_cons_succ, List.getElem?_cons_zero]; rfl
        case hq65 => exact fun _ _ _ h => h
        case hw65 => rfl
        case hy65 => intro w hSw; (try dsimp only at hSw); go_simp; (try with_reducible rfl)
        try simp only [Act.put, List.setIfInBounds_toArray, List.set_cons_zero, List.set_cons_succ]
        refine wpAnyL_take (i := 23) (oi := ?oi66) (v := ?v66) ?hi66 (by kernel_rfl) (by kernel_rfl) (by kernel_rfl) (by kernel_rfl) (by kernel_rfl) ?hq66 (Or.inl ⟨?hw66, ?hy66⟩) hS ?rest66
        case hi66 => simp only [List.getElem?_toArray, List.getElem?_cons_succ, List.getElem?_cons_zero]; rfl
        case hq66 => exact fun _ _ _ h => h
        case hw66 => rfl
        case hy66 => intro w hSw; (try dsimp only at hSw); go_simp; (try with_reducible rfl)
        try simp only [Act.put, List.setIfInBounds_toArray, List.set_cons_zero, List.set_cons_succ]
        refine wpAnyL_ready (rs := [24]) (by kernel_rfl) (by simp) ?_
        refine AllReadyL.cons (o := ?o67) ?ho67 (fun K hK => ?_) AllReadyL.nil
        case ho67 => simp only [List.getElem?_toArray, List.getElem?_cons_succ, List.getElem?_cons_zero]; rfl
        go_simp
        refine hK.out _ _ (fun h => absurd rfl h) (fun hS => ?_)
        clear hS hK K
        try simp only [Act.put, List.setIfInBounds_toArray, List.set_cons_zero, List.set_cons_succ]
        refine wpAnyL_done (by kernel_rfl) ?_ _
        refine NoPanic.normal ?_
        go_wp2
        all_goals (
          go_end0
          exact add_end (E := []) (k := 0) (m := 0) (n := 0) rfl rfl (Nat.le_refl _) hB3 rfl rfl hown3 (by unfold maxLen; omega))
      case wab =>
        go_simp
        refine hK.out _ _ (fun _ => HKP.out _ (((Below.refl _ _).drew.alloc (Nat.le_refl _) _).alloc (by simp <;> omega) _)) (fun hS => ?_)
        replace hS := hS (by decide)
        clear hK K
        try simp only [Act.put, List.setIfInBounds_toArray, List.set_cons_zero, List.set_cons_succ]
        refine wpAnyL_ready (rs := [8]) (by kernel_rfl) (by simp) ?_
        refine AllReadyL.cons (o := ?o68) ?ho68 (fun K hK => ?_) AllReadyL.nil
        case ho68 => simp only [List.getElem?_toArray, List.getElem?_cons_succ, List.getElem?_cons_zero]; rfl
        refine step_append_grown (by rfl) (.tmp 55) (.tmp 61) 98 (by rfl) w.heap.size 119 i _ 3 32 Tryz.underlying98 HI.out.1 HI.out.2.1 HI.out.2.2.1 HI.out.2.2.2 rfl (by omega) _ 0 [] (by rfl) (own_new (two_new w _ _).1 (Nat.le_refl _)) _ 0 _ [] (by rfl) (HSRC.out _).1 (fun u hu => by cases hu) (by unfold maxLen; omega) (by omega) (by simp <;> omega) ?_
        intro A1 c1 u1 hown1 hb1 hg1
        have hB1 : Below w.heap.size w u1 := (((Below.refl _ _).drew.alloc (Nat.le_refl _) _).alloc (by simp <;> omega) _).trans hb1
        have hrow := (row_blk (vs := entC (d, nm, id)) (two_new w (.cells #[] 119) (.cells (entC (d, nm, id)).toArray 119)).2 (by simp [entC, maxLen])).grown hg1 (fun b hb hbw => by subst hb; simp [Value.ownBlock])
        refine hK.out _ _ (fun _ => HKP.out _ hB1) (fun hS => ?_)
        replace hS := hS (by decide)
        clear hK K
        try simp only [Act.put, List.setIfInBounds_toArray, List.set_cons_zero, List.set_cons_succ]
        refine wpAnyL_ready (rs := [14]) (by kernel_rfl) (by simp) ?_
        refine AllReadyL.cons (o := ?o69) ?ho69 (fun K hK => ?_) AllReadyL.nil
        case ho69 => simp only [List.getElem?_toArray, List.getElem?_cons_succ, List.getElem?_cons_zero]; rfl
        refine step_append_rows (by rfl) (.tmp 62) (.tmp 67) 98 (by rfl) w.heap.size 119 i _ 3 32 Tryz.underlying98 HI.out.1 HI.out.2.1 HI.out.2.2.1 HI.out.2.2.2 rfl (by omega) _ _ _ (by rfl) hown1 _ 1 _ (entC (d, nm, id)) (by rfl) hrow (entC_all _) (by unfold maxLen; omega) (by omega) hB1.size ?_
        intro A2 c2 u2 hown2 hb2
        have hB2 : Below w.heap.size w u2 := hB1.trans hb2
        refine hK.out _ _ (fun _ => HKP.out _ hB2) (fun hS => ?_)
        replace hS := hS (by decide)
        clear hK K
        try simp only [Act.put, List.setIfInBounds_toArray, List.set_cons_zero, List.set_cons_succ]
        refine wpAnyL_ready (rs := [21]) (by kernel_rfl) (by simp) ?_
        refine AllReadyL.cons (o := ?o70) ?ho70 (fun K hK => ?_) AllReadyL.nil
        case ho70 => simp only [List.getElem?_toArray, List.getElem?_cons_succ, List.getElem?_cons_zero]; rfl
        refine step_append_rows (by rfl) (.tmp 68) (.tmp 74) 98 (by rfl) w.heap.size 119 i _ 3 32 Tryz.underlying98 HI.out.1 HI.out.2.1 HI.out.2.2.1 HI.out.2.2.2 rfl (by omega) _ _ _ (by rfl) hown2 _ 0 _ [] (by rfl) (HSRC.out _).2 (fun u hu => by cases hu) (by unfold maxLen; omega) (by omega) hB2.size ?_
        intro A3 c3 u3 hown3 hb3
        have hB3 : Below w.heap.size w u3 := hB2.trans hb3
        refine hK.out _ _ (fun _ => HKP.out _ hB3) (fun hS => ?_)
        replace hS := hS (by decide)
        clear hK K
        try simp only [Act.put, List.setIfInBounds_toArray, List.set_cons_zero, List.set_cons_succ]
        refine wpAnyL_take (i := 22) (oi := ?oi71) (v := ?v71) ?hi71 (by kernel_rfl) (by kernel_rfl) (by kernel_rfl) (by kernel_rfl) (by kernel_rfl) ?hq71 (Or.inl ⟨?hw71, ?hy71⟩) hS ?rest71
        case hi71 => simp only [List.getElem?_toArray, List.getElem?_cons_succ, List.getElem?_cons_zero]; rfl
        case hq71 => exact fun _ _ _ h => h
        case hw71 => rfl
        case hy71 => intro w hSw; (try dsimp only at hSw); go_simp; (try with_reducible rfl)
        try simp only [Act.put, List.setIfInBounds_toArray, List.set_cons_zero, List.set_cons_succ]
        refine wpAnyL_take (i := 23) (oi := ?oi72) (v := ?v72) ?hi72 (by kernel_rfl) (by kernel_rfl) (by kernel_rfl) (by kernel_rfl) (by kernel_rfl) ?hq72 (Or.inl ⟨?hw72, ?hy72⟩) hS ?rest72
        case hi72 => simp only [List.getElem?_toArray, List.getElem?_cons_succ, List.getElem?_cons_zero]; rfl
        case hq72 => exact fun _ _ _ h => h
        case hw72 => rfl
        case hy72 => intro w hSw; (try dsimp only at hSw); go_simp; (try with_reducible rfl)
        try simp only [Act.put, List.setIfInBounds_toArray, List.set_cons_zero, List.set_cons_succ]
        refine wpAnyL_ready (rs := [24]) (by kernel_rfl) (by simp) ?_
        refine AllReadyL.cons (o := ?o73) ?ho73 (fun K hK => ?_) AllReadyL.nil
        case ho73 => simp only [List.getElem?_toArray, List.getElem?_cons_succ, List.getElem?_cons_zero]; rfl
        go_simp
        refine hK.out _ _ (fun h => absurd rfl h) (fun hS => ?_)
        clear hS hK K
        try simp only [Act.put, List.setIfInBounds_toArray, List.set_cons_zero, List.set_cons_succ]
        refine wpAnyL_done (by kernel_rfl) ?_ _
        refine NoPanic.normal ?_
        go_wp2
        all_goals (
          go_end0
          exact add_end (E := []) (k := 0) (m := 0) (n := 0) rfl rfl (Nat.le_refl _) hB3 rfl rfl hown3 (by unfold maxLen; omega))
    case wb =>
      go_simp
      refine hK.out _ _ (fun _ => HKP.out _ ((Below.refl _ _).drew.alloc (Nat.le_refl _) _)) (fun hS => ?_)
      replace hS := hS (by decide)
      clear hK K
      try simp only [Act.put, List.setIfInBounds_toArray, List.set_cons_zero, List.set_cons_succ]
      refine wpAnyL_ready (rs := [1]) (by kernel_rfl) (by simp) ?_
      refine AllReadyL.cons (o := ?o74) ?ho74 (fun K hK => ?_) AllReadyL.nil
      case ho74 => simp only [List.getElem?_toArray, List.getElem?_cons_succ, List.getElem?_cons_zero]; rfl
      go_simp
      refine hK.out _ _ (fun _ => HKP.out _ (((Below.refl _ _).drew.alloc (Nat.le_refl _) _).alloc (by simp <;> omega) _)) (fun hS => ?_)
      replace hS := hS (by decide)
      clear hK K
      try simp only [Act.put, List.setIfInBounds_toArray, List.set_cons_zero, List.set_cons_succ]
      refine wpAnyL_ready (rs := [8]) (by kernel_rfl) (by simp) ?_
      refine AllReadyL.cons (o := ?o75) ?ho75 (fun K hK => ?_) AllReadyL.nil
      case ho75 => simp only [List.getElem?_toArray, List.getElem?_cons_succ, List.getElem?_cons_zero]; rfl
      refine step_append_grown (by rfl) (.tmp 55) (.tmp 61) 98 (by rfl) w.heap.size 119 i _ 3 32 Tryz.underlying98 HI.out.1 HI.out.2.1 HI.out.2.2.1 HI.out.2.2.2 rfl (by omega) _ 0 [] (by rfl) (own_new (two_new w _ _).2 (by omega)) _ 0 _ [] (by rfl) (HSRC.out _).1 (fun u hu => by cases hu) (by unfold maxLen; omega) (by omega) (by simp <;> omega) ?_
      intro A1 c1 u1 hown1 hb1 hg1
      have hB1 : Below w.heap.size w u1 := (((Below.refl _ _).drew.alloc (Nat.le_refl _) _).alloc (by simp <;> omega) _).trans hb1
      have hrow := (row_blk (vs := entC (d, nm, id)) (two_new w (.cells (entC (d, nm, id)).toArray 119) (.cells #[] 119)).1 (by simp [entC, maxLen])).grown hg1 (fun b hb hbw => by subst hb; simp [Value.ownBlock])
      refine hK.out _ _ (fun _ => HKP.out _ hB1) (fun hS => ?_)
      replace hS := hS (by decide)
      clear hK K
      try simp only [Act.put, List.setIfInBounds_toArray, List.set_cons_zero, List.set_cons_succ]
      refine wpAnyL_ready (rs := [14]) (by kernel_rfl) (by simp) ?_
      refine AllReadyL.cons (o := ?o76) ?ho76 (fun K hK => ?_) AllReadyL.nil
      case ho76 => simp only [List.getElem?_toArray, List.getElem?_cons_succ, List.getElem?_cons_zero]; rfl
      refine step_append_rows (by rfl) (.tmp 62) (.tmp 67) 98 (by rfl) w.heap.size 119 i _ 3 32 Tryz.underlying98 HI.out.1 HI.out.2.1 HI.out.2.2.1 HI.out.2.2.2 rfl (by omega) _ _ _ (by rfl) hown1 _ 1 _ (entC (d, nm, id)) (by rfl) hrow (entC_all _) (by unfold maxLen; omega) (by omega) hB1.size ?_
      intro A2 c2 u2 hown2 hb2
      have hB2 : Below w.heap.size w u2 := hB1.trans hb2
      refine hK.out _ _ (fun _ => HKP.out _ hB2) (fun hS => ?_)
      replace hS := hS (by decide)
      clear hK K
      try simp only [Act.put, List.setIfInBounds_toArray, List.set_cons_zero, List.set_cons_succ]
      refine wpAnyL_ready (rs := [21]) (by kernel_rfl) (by simp) ?_
      refine AllReadyL.cons (o := ?o77) ?ho77 (fun K hK => ?_) AllReadyL.nil
      case ho77 => simp only [List.getElem?_toArray, List.getElem?_cons_succ, List.getElem?_cons_zero]; rfl
      refine step_append_rows (by rfl) (.tmp 68) (.tmp 74) 98 (by rfl) w.heap.size 119 i _ 3 32 Tryz.underlying98 HI.out.1 HI.out.2.1 HI.out.2.2.1 HI.out.2.2.2 rfl (by omega) _ _ _ (by rfl) hown2 _ 0 _ [] (by rfl) (HSRC.out _).2 (fun u hu => by cases hu) (by unfold maxLen; omega) (by omega) hB2.size ?_
      intro A3 c3 u3 hown3 hb3
      have hB3 : Below w.heap.size w u3 := hB2.trans hb3
      refine hK.out _ _ (fun _ => HKP.out _ hB3) (fun hS => ?_)
      replace hS := hS (by decide)
      clear hK K
      try simp only [Act.put, List.setIfInBounds_toArray, List.set_cons_zero, List.set_cons_succ]
      refine wpAnyL_take (i := 22) (oi := ?oi78) (v := ?v78) ?hi78 (by kernel_rfl) (by kernel_rfl) (by kernel_rfl) (by kernel_rfl) (by kernel_rfl) ?hq78 (Or.inl ⟨?hw78, ?hy78⟩) hS ?rest78
      case hi78 => simp only [List.getElem?_toArray, List.getElem?_cons_succ, List.getElem?_cons_zero]; rfl
      case hq78 => exact fun _ _ _ h => h
      case hw78 => rfl
      case hy78 => intro w hSw; (try dsimp only at hSw); go_simp; (try with_reducible rfl)
      try simp only [Act.put, List.setIfInBounds_toArray, List.set_cons_zero, List.set_cons_succ]
      refine wpAnyL_take (i := 23) (oi := ?oi79) (v := ?v79) ?hi79 (by kernel_rfl) (by kernel_rfl) (by kernel_rfl) (by kernel_rfl) (by kernel_rfl) ?hq79 (Or.inl ⟨?hw79, ?hy79⟩) hS ?rest79
      case hi79 => simp only [List.getElem?_toArray, List.getElem?_cons_succ, List.getElem?_cons_zero]; rfl
      case hq79 => exact fun _ _ _ h => h
      case hw79 => rfl
      case hy79 => intro w hSw; (try dsimp only at hSw); go_simp; (try with_reducible rfl)
      try simp only [Act.put, List.setIfInBounds_toArray, List.set_cons_zero, List.set_cons_succ]
      refine wpAnyL_ready (rs := [24]) (by kernel_rfl) (by simp) ?_
      refine AllReadyL.cons (o := ?o80) ?ho80 (fun K hK => ?_) AllReadyL.nil
      case ho80 => simp only [List.getElem?_toArray, List.getElem?_cons_succ, List.getElem?_cons_zero]; rfl
      go_simp
      refine hK.out _ _ (fun h => absurd rfl h) (fun hS => ?_)
      clear hS hK K
      try simp only [Act.put, List.setIfInBounds_toArray, List.set_cons_zero, List.set_cons_succ]
      refine wpAnyL_done (by kernel_rfl) ?_ _
      refine NoPanic.normal ?_
      go_wp2
      all_goals (
        go_end0
        exact add_end (E := []) (k := 0) (m := 0) (n := 0) rfl rfl (Nat.le_refl _) hB3 rfl rfl hown3 (by unfold maxLen; omega))
/-- An entry more. -/
theorem radd_at (d : Int) (nm : Nm) (id : Int) (w : World) (h : RefP F w r T D E) (hn6 : E.length ≤ 1000000) :
    Calls Tryz.prog 65 #[ptr r, .int .i64 d, .string (strOf nm), .int .i64 id] w (RTurnP F w r T D (addE E d nm id) (.tuple #[])) := by
  obtain ⟨aN, cN, aD, cD, aE, cE, h1, h2, h3, h4, h8, h9, h10, h11⟩ := h.head
  have hc : w.cell? ⟨r, 2, none⟩ = some (.slice aE E.length cE) := by simp [World.cell?, h1]
  rcases h11 with ⟨rfl, rfl⟩ | ⟨b, rfl⟩
  · have hE : E = [] := List.eq_nil_of_length_eq_zero (by omega)
    rw [hE] at hc ⊢
    exact (radd_nil d nm id w hc (h.low r h.own) (RowAt.frozen h1 rfl)).mono fun e w' hs => ent_turn h hs
  · exact (radd_some d nm id w b E.length cE hc (h.low r h.own) (RowAt.frozen h1 rfl) rfl h4 hn6 h10).mono fun e w' hs => ent_turn h hs
end
end Go.Proofs.YtbapdoicejakhaaGreat
