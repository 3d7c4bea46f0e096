/- tree: deep. How deep a tree is; Rename, as plain data. -/
import Derived.Test.YtpgklnhkfgbpgaaGreatDoorM17
namespace Go.Proofs.YtpgklnhkfgbpgaaGreatDoor
open Go.ChangeShapes Go.WideShapes Go.ChangeAt Go.RowKit
set_option linter.unusedVariables false
set_option linter.unusedSimpArgs false

/-- The most of these, and one. -/
def maxD (d : Int → Nat) (l : List (Nm × Int)) : Nat := (l.map fun e => 1 + d e.2).foldr Nat.max 0
theorem maxD_ge (d : Int → Nat) : ∀ {l : List (Nm × Int)} {e : Nm × Int}, e ∈ l → 1 + d e.2 ≤ maxD d l
  | x :: r, e, h => by
    have e1 : maxD d (x :: r) = Nat.max (1 + d x.2) (maxD d r) := rfl
    rw [e1]
    rcases List.mem_cons.1 h with rfl | h
    · exact Nat.le_max_left _ _
    · exact Nat.le_trans (maxD_ge d h) (Nat.le_max_right _ _)
theorem maxD_le (d : Int → Nat) {m : Nat} : ∀ {l : List (Nm × Int)}, (∀ e ∈ l, 1 + d e.2 ≤ m) → maxD d l ≤ m
  | [], _ => Nat.zero_le _
  | x :: r, h => by
    have e1 : maxD d (x :: r) = Nat.max (1 + d x.2) (maxD d r) := rfl
    rw [e1]
    exact Nat.max_le.2 ⟨h x (by simp), maxD_le d fun e he => h e (by simp [he])⟩
/-- How many names below a node lead deepest. -/
def deepM (T : TrM) : Nat → Int → Nat
  | 0, _ => 0
  | n + 1, id => maxD (deepM T n) (namesM T id)
/-- No more than so many. -/
def Shal (T : TrM) : Nat → Int → Prop
  | 0, id => namesM T id = []
  | n + 1, id => ∀ e ∈ namesM T id, Shal T n e.2
theorem Shal.le {T : TrM} : ∀ {n : Nat} {id : Int}, Shal T n id → deepM T n id ≤ n
  | 0, _, _ => Nat.le_refl _
  | n + 1, id, h => maxD_le _ fun e he => by have := (h e he).le; omega

section
variable {P : Program} {w : World} {ops : Array Oper} {rest : List Oper} {o : Oper} {a : Act} {Q : Exit → Act → World → Prop}
/-- A range over no map. -/
theorem wpList_range_nil (hg : o.guard = none) (m : Operand) (t k e : TypeId) (hop : o.op = Op.range t m) (ht : P.underlying t = some (.map k e)) (hm : a.eval m = .map none)
    (h : wpList P ops Q rest (a.put o.dst (.pointer (some ⟨w.heap.size, 0, none⟩))) (w.alloc (.mapIter none 0 #[] 0))) : wpList P ops Q (o :: rest) a w := by
  refine wpList_plain hg fun K' hK' => ?_
  have hrun : (Instr.range t (.map none)).run P w = .ok (.pointer (some ⟨w.heap.size, 0, none⟩)) (w.alloc (.mapIter none 0 #[] 0)) := by
    simp [Instr.range, run_underlying ht, Result.andThen]
  unfold Oper.wp
  simp [execOp, hop, hm, hrun, Result.andThen]
  exact hK' _ _ h
theorem wpList_next_nil (hg : o.guard = none) (it : Operand) (hop : o.op = Op.next it false) {r : Nat} (hit : a.eval it = .pointer (some ⟨r, 0, none⟩)) (hr : w.heap[r]? = some (.mapIter none 0 #[] 0))
    (h : wpList P ops Q rest (a.put o.dst (.tuple #[.bool false])) w) : wpList P ops Q (o :: rest) a w := by
  refine wpList_plain hg fun K' hK' => ?_
  have hrun : (Instr.next (.pointer (some ⟨r, 0, none⟩)) false o.type).run P w = .ok (.tuple #[.bool false]) w := by
    simp only [Instr.next, getObj, Sem.run_bind, Sem.run, hr, Result.andThen]
    rfl
  unfold Oper.wp
  simp [execOp, hop, hit, hrun, Result.andThen]
  exact hK' _ _ h
end

section
variable {g : Nat → Own} {D : Nat → Prop} {p mb : Nat} {ib nb : Int → Nat} {T : TrM}
def DeepAt (p : Nat) (w : World) (id : Int) (n : Nat) : Prop := Calls Tryz.prog 91 #[ptr p, .int .i64 id] w fun e w' => e = .returned (.int .i64 n) ∧ Below w.heap.size w w'
/-- While deep runs. -/
def DeepRel (w : World) (d : Int → Nat) (x : ItM) (nbk r : Nat) (v : Value) (wr : World) : Prop :=
  ∃ (m : Nat) (left : Nm → Bool) (cnt : Nat), v = .int .i64 m ∧ m ≤ maxD d x.names ∧ (∀ e ∈ x.names, left e.1 = false → 1 + d e.2 ≤ m) ∧ RangeAt strK wr nbk r (nameL x) left cnt ∧ Below w.heap.size w wr
set_option maxHeartbeats 1000000 in
theorem deep_step (id : Int) (x : ItM) (d : Int → Nat) (w : World) (h : TreeAt g D w p mb ib nb T) (hT : OkM T) (hx : aget id T = some x) (hd : ∀ e ∈ x.names, d e.2 ≤ 64)
    (hc : ∀ e ∈ x.names, ∀ w1, Below w.heap.size w w1 → DeepAt p w1 e.2 (d e.2)) : DeepAt p w id (maxD d x.names) := by
  obtain ⟨hc0, hpw, hmw⟩ := h.cell
  have hids := hT.ids id x hx
  have hok : intK.ok id := okInt hids.1 (by omega)
  obtain ⟨c0, c1, c2, c3, c4, c5, c7, hiw⟩ := (h.item id x hx).cell
  have hget : aget id (T.map fun q => (q.1, ptr (ib q.1))) = some (ptr (ib id)) := by rw [aget_ptr, hx]; rfl
  have HG := Lib.hid hget
  have HMAP := Lib.hid h.map
  have HC := Lib.hid hc
  have HD := Lib.hid hd
  have O1 := Lib.hid (hT.each id x hx)
  by_cases hk : x.kind = 2
  · have e2 : namesV x (nb id) = .map (some (nb id)) := if_pos hk
    rw [e2] at c7
    have HN := Lib.hid ((h.item id x hx).names hk)
    have hbw := HN.out.lt
    clear hget hc hd h hk e2 hT
    unfold DeepAt
    go_enter Tryz.func91, Tryz.ntmps91
    go_wp2_with (first | (at_lookup; refine wpList_look intK rfl _ _ 98 91 rfl Tryz.underlying98 (Tryz.zeroItem _) rfl HMAP.out id rfl hok ?_; rw [HG.out]) | (at_range; refine wpList_range strK rfl _ 95 3 rfl Tryz.underlying95 rfl HN.out ?_; intro w0 hR0 hB0 hs0))
    go_frame
    go_loopw [5, 7] (fun v _ wr => DeepRel w d x (nb id) w.heap.size v wr) (fun _ _ wr => wr.rangeLeft (nb id) w.heap.size)
    case atStart =>
      refine ⟨0, _, _, rfl, Nat.zero_le _, fun e he hl => ?_, hR0, hB0⟩
      simp only [aget_nameL] at hl
      rw [aget_of_mem bbLt O1.out.sorted he] at hl
      cases hl
    case round =>
      obtain ⟨m, left, cnt, rfl, hm, hsee, hR, hB⟩ := hrel
      have HB := Lib.hid hB
      have HSEE := Lib.hid hsee
      have HR := Lib.hid hR
      have hmd : maxD d x.names ≤ 65 := maxD_le d fun e he => by have := HD.out e he; omega
      clear hsee hR hB
      go_wp2_with (first | (at_next; refine wpList_next strK rfl _ rfl rfl HR.out ?_ ?_))
      · intro hdone
        have HDN := Lib.hid hdone
        clear hdone
        go_wp2
        go_ret
        refine ⟨ret_int ?_, HB.out⟩
        have : maxD d x.names ≤ m := maxD_le d fun e he => HSEE.out e he (HDN.out _)
        omega
      · intro k v w3 cnt1 hokk hleft hg2 hR1 hlt hK1 hs1 hen
        rw [aget_nameL] at hg2
        cases hk2 : aget k x.names with
        | none => rw [hk2] at hg2; cases hg2
        | some j =>
          rw [hk2] at hg2
          cases hg2
          have hmem := aget_mem hk2
          have hB3 : Below w.heap.size w w3 := ⟨hK1.os.trans HB.out.os, hK1.tape.trans HB.out.tape, hK1.output.trans HB.out.output, by rw [hs1]; exact HB.out.size, fun b hb => (hK1.block b (by have := HB.out.size; omega) (by omega)).trans (HB.out.block b hb)⟩
          have HCH := Lib.hid (HC.out _ hmem w3 hB3)
          have hdj := HD.out _ hmem
          have hjm := maxD_ge d hmem
          have HB3 := Lib.hid hB3
          have HR1 := Lib.hid hR1
          have HK2 := Lib.hid hk2
          have HLT := Lib.hid hlt
          simp only at hdj hjm
          have e1 : IntKind.i64.wrap (1 + (d j : Int)) = 1 + (d j : Int) := IntWalk.i64_in _ (by omega)
          have hrw := HR.out.lt
          clear hk2 hmem hR1 hB3 hlt hK1
          show wpList _ _ _ _ _ _
          have e3 : strK.val k = .string (strOf k) := rfl
          rw [e3] at hen ⊢
          clear e3
          have HCH2 := Lib.hid (show Calls Tryz.prog 91 #[ptr p, .int .i64 j] w3 _ from HCH.out)
          go_wp2_with fail
          (with_reducible refine HCH2.out.mono ?_)
          rintro e w4 ⟨rfl, hb4⟩
          have HB4 := Lib.hid hb4
          clear hb4
          go_wp2_with fail
          go_roundw
          case rel =>
            have hs4 := HB4.out.size
            refine ⟨Nat.max m (1 + d j), _, cnt1, ?_, Nat.max_le.2 ⟨hm, hjm⟩, fun e he hl => ?_, HR1.out.kept (HB4.out.block _ HR1.out.lt.1) (HB4.out.block _ HR1.out.lt.2.1), HB3.out.trans (HB4.out.mono HB3.out.size)⟩
            · congr 1
              show max (m : Int) (1 + (d j : Int)) = ((Nat.max m (1 + d j) : Nat) : Int)
              rcases Nat.le_total m (1 + d j) with h0 | h0
              · rw [show Nat.max m (1 + d j) = 1 + d j from Nat.max_eq_right h0]; omega
              · rw [show Nat.max m (1 + d j) = m from Nat.max_eq_left h0]; omega
            · by_cases hek : e.1 = k
              · have h1 := aget_of_mem bbLt O1.out.sorted he
                rw [hek, HK2.out] at h1
                have h2 : j = e.2 := Option.some.inj h1
                rw [← h2]
                exact Nat.le_max_right _ _
              · refine Nat.le_trans (HSEE.out e he ?_) (Nat.le_max_left _ _)
                simpa [hek] using hl
          case measure =>
            have h4 : RangeAt strK w4 (nb id) w.heap.size (nameL x) _ cnt1 := HR1.out.kept (HB4.out.block _ HR1.out.lt.1) (HB4.out.block _ HR1.out.lt.2.1)
            rw [h4.measure, HR.out.measure]
            exact HLT.out
  · have e2 : namesV x (nb id) = .map none := if_neg hk
    rw [e2] at c7
    have hnil : x.names = [] := O1.out.file (O1.out.kind.resolve_right hk)
    have HNIL := Lib.hid hnil
    clear hget hc hd h hk e2 hT hnil
    unfold DeepAt
    rw [HNIL.out]
    go_enter Tryz.func91, Tryz.ntmps91
    go_wp2_with (first | (at_lookup; refine wpList_look intK rfl _ _ 98 91 rfl Tryz.underlying98 (Tryz.zeroItem _) rfl HMAP.out id rfl hok ?_; rw [HG.out]) | (at_range; refine wpList_range_nil rfl _ 95 9 3 rfl Tryz.underlying95 rfl ?_))
    go_frame
    go_loopw [5, 7] (fun v _ wr => v = .int .i64 0 ∧ wr = w.alloc (.mapIter none 0 #[] 0)) (fun _ _ wr => 0)
    case atStart => exact ⟨rfl, rfl⟩
    case round =>
      obtain ⟨rfl, rfl⟩ := hrel
      go_wp2_with (first | (at_next; refine wpList_next_nil rfl _ rfl rfl (MapKept.heap_alloc w _).1 ?_))
      go_ret
      exact ⟨rfl, wall w _⟩
/-- deep, of what is no deeper than so many. -/
theorem deep_any (hT : OkM T) : ∀ (n : Nat) (id : Int) (w : World), TreeAt g D w p mb ib nb T → (aget id T).isSome = true → Shal T n id → n ≤ 64 → DeepAt p w id (deepM T n id)
  | 0, id, w, h, hi, hs, hn => by
    obtain ⟨x, hx⟩ := Option.isSome_iff_exists.1 hi
    have e : x.names = [] := by have h1 : namesM T id = [] := hs; unfold namesM at h1; rw [hx] at h1; exact h1
    have := deep_step id x (fun _ => 0) w h hT hx (fun _ _ => Nat.zero_le _) (fun y he => by rw [e] at he; cases he)
    rw [e] at this
    exact this
  | n + 1, id, w, h, hi, hs, hn => by
    obtain ⟨x, hx⟩ := Option.isSome_iff_exists.1 hi
    have e : namesM T id = x.names := by unfold namesM; rw [hx]
    have hs' : ∀ e ∈ x.names, Shal T n e.2 := fun y hy => hs y (by rw [e]; exact hy)
    have := deep_step id x (deepM T n) w h hT hx (fun y hy => Nat.le_trans (hs' y hy).le (by omega)) (fun y hy w1 hb =>
      deep_any hT n y.2 w1 (h.below hb (Nat.le_refl _)) (hT.leads id x hx y hy).1 (hs' y hy) (by omega))
    rw [← e] at this
    exact this
end
end Go.Proofs.YtpgklnhkfgbpgaaGreatDoor
namespace Go.Proofs.YtpgklnhkfgbpgaaGreatDoor
open Go.ChangeShapes Go.WideShapes Go.ChangeAt Go.RowKit
set_option linter.unusedVariables false
set_option linter.unusedSimpArgs false

/-- How many names lead to a directory: none has names that are too deep. -/
structure DepthOk (T : TrM) (dep : Int → Nat) : Prop where
  zero : dep 0 = 0
  up : ∀ d x, aget d T = some x → ∀ e ∈ x.names, dep d < 8 ∧ (kindM T e.2 = 2 → dep e.2 = dep d + 1)
theorem namesM_of {T : TrM} {id : Int} {x : ItM} (hx : aget id T = some x) : namesM T id = x.names := by unfold namesM; rw [hx]
theorem mem_namesM {T : TrM} {id : Int} {e : Nm × Int} (h : e ∈ namesM T id) : ∃ x, aget id T = some x ∧ e ∈ x.names := by
  unfold namesM at h
  cases hx : aget id T with
  | none => rw [hx] at h; cases h
  | some x => rw [hx] at h; exact ⟨x, rfl, h⟩
theorem names_dir {T : TrM} (hT : OkM T) {id : Int} {x : ItM} (hx : aget id T = some x) {e : Nm × Int} (he : e ∈ x.names) : x.kind = 2 := by
  rcases (hT.each id x hx).kind with h | h
  · rw [(hT.each id x hx).file h] at he; cases he
  · exact h
theorem shal_nil {T : TrM} {id : Int} (h : namesM T id = []) : ∀ n, Shal T n id
  | 0 => h
  | n + 1 => fun e he => by rw [h] at he; cases he
theorem DepthOk.shal {T : TrM} {dep : Int → Nat} (h : DepthOk T dep) (hT : OkM T) : ∀ (n : Nat) (d : Int), 8 ≤ n + dep d → Shal T n d
  | 0, d, hd => by
    show namesM T d = []
    cases hn : namesM T d with
    | nil => rfl
    | cons e r =>
      obtain ⟨x, hx, he⟩ := mem_namesM (T := T) (id := d) (e := e) (by rw [hn]; simp)
      have := (h.up d x hx e he).1
      omega
  | n + 1, d, hd => fun e he => by
    obtain ⟨x, hx, he⟩ := mem_namesM he
    by_cases hk : kindM T e.2 = 2
    · have := (h.up d x hx e he).2 hk
      exact h.shal hT n e.2 (by omega)
    · refine shal_nil ?_ n
      obtain ⟨y, hy⟩ := Option.isSome_iff_exists.1 (hT.leads d x hx e he).1
      rw [kindM_of hy] at hk
      rw [namesM_of hy]
      exact (hT.each _ y hy).file ((hT.each _ y hy).kind.resolve_right hk)
theorem DepthOk.shal8 {T : TrM} {dep : Int → Nat} (h : DepthOk T dep) (hT : OkM T) (d : Int) : Shal T 8 d := h.shal hT 8 d (by omega)
theorem look_cons {T : TrM} {a d : Int} {n : Nm} {r : List Nm} (h : lookM T a (n :: r) = (d, 0)) : ∃ x k, aget a T = some x ∧ x.kind = 2 ∧ aget n x.names = some k ∧ lookM T k r = (d, 0) := by
  simp only [lookM] at h
  cases hx : aget a T with
  | none => rw [hx] at h; cases h
  | some x =>
    rw [hx] at h
    simp only at h
    by_cases hk : x.kind = 2
    · rw [if_pos hk] at h
      cases hn : aget n x.names with
      | none => rw [hn] at h; cases h
      | some k => rw [hn] at h; exact ⟨x, k, rfl, hk, hn, h⟩
    · rw [if_neg hk] at h; cases h
theorem dep_look {T : TrM} {dep : Int → Nat} (h : DepthOk T dep) : ∀ (p : List Nm) (a d : Int), lookM T a p = (d, 0) → kindM T d = 2 → dep d = dep a + p.length
  | [], a, d, hl, _ => by
    have : a = d := congrArg Prod.fst hl
    subst this; rfl
  | n :: r, a, d, hl, hd => by
    obtain ⟨x, k, hx, hk, hn, hl⟩ := look_cons hl
    have hkk : kindM T k = 2 := by
      cases r with
      | nil =>
        have : k = d := congrArg Prod.fst hl
        rw [this]; exact hd
      | cons m s =>
        obtain ⟨y, j, hy, hyk, _⟩ := look_cons hl
        rw [kindM_of hy]; exact hyk
    have h1 := (h.up a x hx _ (aget_mem hn)).2 hkk
    have h2 := dep_look h r k d hl hd
    simp only at h1
    rw [List.length_cons]
    omega
/-- A directory has one name. -/
theorem one_name {T : TrM} (hT : OkM T) {a b k : Int} {x y : ItM} {n m : Nm} (hx : aget a T = some x) (hn : aget n x.names = some k) (hy : aget b T = some y) (hm : aget m y.names = some k) (hk : kindM T k = 2) : a = b ∧ n = m := by
  obtain ⟨z, hz, hzk⟩ := kindM_some hk
  have h0 := (hT.leads a x hx _ (aget_mem hn)).2
  have hc := hT.counts k z hz h0
  rw [((hT.each k z hz).dir hzk).1] at hc
  have h1 := cntM_cut hT.toOkP hx hn k
  rw [if_pos rfl] at h1
  have h2 : cntM (cutName T a n) k = 0 := by omega
  by_cases hab : b = a
  · subst hab
    rw [hx] at hy; cases hy
    refine ⟨rfl, ?_⟩
    by_cases hnm : m = n
    · exact hnm.symm
    · have hg : aget b (cutName T b n) = some { x with names := adel n x.names } := by unfold cutName; rw [aget_amod, if_pos rfl, hx]; rfl
      have hm' : aget m (adel n x.names) = some k := by rw [aget_adel_other hnm]; exact hm
      exact absurd rfl (cn_zero h2 hg _ (aget_mem hm'))
  · have hg : aget b (cutName T a n) = some y := by unfold cutName; rw [aget_amod, if_neg hab]; exact hy
    exact absurd rfl (cn_zero h2 hg _ (aget_mem hm))
/-- .. and one path. -/
theorem one_path {T : TrM} (hT : OkM T) : ∀ (l : Nat) (p q : List Nm) (d : Int), p.length ≤ l → lookM T 0 p = (d, 0) → lookM T 0 q = (d, 0) → kindM T d = 2 → p = q
  | l, p, q, d, hl, hp, hq, hd => by
    by_cases h1 : p = []
    · subst h1
      by_cases h2 : q = []
      · exact h2.symm
      · obtain ⟨d', x, n, -, -, hx, _, hn, _⟩ := place_of_look hq h2
        have h0 : (0 : Int) = d := congrArg Prod.fst hp
        have := (hT.leads d' x hx _ (aget_mem hn)).2
        exact absurd h0.symm this
    · obtain ⟨d1, x, n, -, hl1, hx, hxk, hn, _, e1⟩ := place_of_look hp h1
      by_cases h2 : q = []
      · subst h2
        have h0 : (0 : Int) = d := congrArg Prod.fst hq
        have := (hT.leads d1 x hx _ (aget_mem hn)).2
        exact absurd h0.symm this
      · obtain ⟨d2, y, m, -, hl2, hy, _, hm, _, e2⟩ := place_of_look hq h2
        obtain ⟨hab, hnm⟩ := one_name hT hx hn hy hm hd
        subst hab hnm
        have hlen : p.dropLast.length < p.length := by
          rw [List.length_dropLast]
          have : p.length ≠ 0 := fun e => h1 (List.eq_nil_of_length_eq_zero e)
          omega
        match l, hl with
        | 0, hl => exact absurd (List.eq_nil_of_length_eq_zero (by omega)) h1
        | l + 1, hl =>
          have := one_path hT l p.dropLast q.dropLast d1 (by omega) hl1 hl2 ((kindM_of hx).trans hxk)
          rw [e1, e2, this]
/-- What lies below a node. -/
def Desc (T : TrM) (id d : Int) : Prop := ∃ q, lookM T id q = (d, 0)
theorem deep_ge {T : TrM} (hT : OkM T) : ∀ (q : List Nm) (id d : Int) (x : ItM) (e : Nm × Int) (n : Nat), lookM T id q = (d, 0) → aget d T = some x → e ∈ x.names → q.length < n → q.length + 1 ≤ deepM T n id
  | [], id, d, x, e, n + 1, hl, hx, he, hn => by
    have : id = d := congrArg Prod.fst hl
    subst this
    have : 1 + deepM T n e.2 ≤ maxD (deepM T n) (namesM T id) := maxD_ge _ (by rw [namesM_of hx]; exact he)
    show 0 + 1 ≤ maxD (deepM T n) (namesM T id)
    omega
  | m :: r, id, d, x, e, n + 1, hl, hx, he, hn => by
    obtain ⟨y, k, hy, hyk, hm, hl⟩ := look_cons hl
    rw [List.length_cons] at hn
    have h1 := deep_ge hT r k d x e n hl hx he (by omega)
    have : 1 + deepM T n k ≤ maxD (deepM T n) (namesM T id) := maxD_ge (deepM T n) (e := (m, k)) (by rw [namesM_of hy]; exact aget_mem hm)
    show (m :: r).length + 1 ≤ maxD (deepM T n) (namesM T id)
    rw [List.length_cons]
    omega
  | q, _, _, _, _, 0, _, _, _, hn => by omega

/-- Is a path, or its directories', another one? -/
def withinL (p q : List Nm) : Bool := decide (p.take q.length = q)
def renameE (T : TrM) (p tq : List Nm) : Int :=
  if fine2 p tq ≠ 0 then fine2 p tq else
  if (lookM T 0 p).2 ≠ 0 then (lookM T 0 p).2 else
  if (lookM T 0 p).1 = 0 then 1 else
  if (placeM T tq).2.2 ≠ 0 then (placeM T tq).2.2 else
  if kindM T (lookM T 0 p).1 = 2 ∧ withinL tq p = true then 1 else
  match aget (placeM T tq).2.1 (namesM T (placeM T tq).1) with
  | some k => if k = (lookM T 0 p).1 then 0 else 21
  | none => if 8 < tq.length + deepM T 8 (lookM T 0 p).1 then 3 else 0
def renameOk (T : TrM) (p tq : List Nm) : TrM := setName (cutName T (placeM T p).1 (placeM T p).2.1) (placeM T tq).1 (placeM T tq).2.1 (lookM T 0 p).1
def renameM (T : TrM) (p tq : List Nm) : Int × TrM :=
  (renameE T p tq, if renameE T p tq = 0 ∧ (aget (placeM T tq).2.1 (namesM T (placeM T tq).1)).isSome = false then renameOk T p tq else T)

/-- A name moves. -/
theorem OkM.move {T : TrM} (h : OkM T) {d1 d2 id : Int} {x1 x2 : ItM} {n1 n2 : Nm} (hx1 : aget d1 T = some x1) (hk1 : x1.kind = 2) (hn1 : aget n1 x1.names = some id) (hx2 : aget d2 T = some x2) (hk2 : x2.kind = 2) (hg2 : goodL n2 = true) (hn2 : aget n2 x2.names = none) :
    OkM (setName (cutName T d1 n1) d2 n2 id) := by
  have hid := h.leads d1 x1 hx1 _ (aget_mem hn1)
  have hP := h.toOkP.cut (n := n1) hx1 hk1
  obtain ⟨x3, hx3, hk3, hn3⟩ : ∃ x3, aget d2 (cutName T d1 n1) = some x3 ∧ x3.kind = 2 ∧ aget n2 x3.names = none := by
    unfold cutName
    rw [aget_amod]
    by_cases hd : d2 = d1
    · subst hd
      rw [hx1] at hx2; cases hx2
      rw [if_pos rfl, hx1]
      refine ⟨_, rfl, hk1, ?_⟩
      show aget n2 (adel n1 x1.names) = none
      rw [aget_adel]
      split
      · rfl
      · exact hn2
    · rw [if_neg hd]; exact ⟨x2, hx2, hk2, hn2⟩
  have hid3 : (aget id (cutName T d1 n1)).isSome = true := by
    unfold cutName; rw [aget_amod]
    split <;> simp [hid.1]
  refine ⟨hP.set hx3 hk3 hg2 ⟨hid3, hid.2⟩, fun j z hz hj => ?_⟩
  have h1 := cntM_cut h.toOkP hx1 hn1 j
  have h2 := cntM_amod hP.sorted (fun x => { x with names := aput bytesBefore n2 id x.names }) hx3 j
  have h3 := cn_set (id := id) hn3 j
  have e : cntM (setName (cutName T d1 n1) d2 n2 id) j = cntM T j := by
    unfold setName
    omega
  rw [e]
  unfold setName at hz
  rw [aget_amod] at hz
  obtain ⟨z1, hz1, hl1⟩ : ∃ z1, aget j (cutName T d1 n1) = some z1 ∧ z.links = z1.links := by
    by_cases hjd : j = d2
    · rw [if_pos hjd] at hz
      cases hq : aget j (cutName T d1 n1) with
      | none => rw [hq] at hz; cases hz
      | some z1 =>
        rw [hq] at hz
        simp only [Option.map_some, Option.some.injEq] at hz
        exact ⟨z1, rfl, by rw [← hz]⟩
    · rw [if_neg hjd] at hz; exact ⟨z, hz, rfl⟩
  obtain ⟨z2, hz2, hl2, _⟩ := cut_get hz1
  rw [hl1, hl2]
  exact h.counts j z2 hz2 hj
/-- What is below a directory and what is not, when it moves. -/
theorem desc_dir {T : TrM} (hT : OkM T) {id a k : Int} {x : ItM} {n : Nm} (hx : aget a T = some x) (hn : aget n x.names = some k) (hk : kindM T k = 2) (hki : k ≠ id) : Desc T id k ↔ Desc T id a := by
  constructor
  · rintro ⟨q, hq⟩
    rcases List.eq_nil_or_concat q with rfl | ⟨r, m, rfl⟩
    · exact absurd (congrArg Prod.fst hq).symm hki
    · rw [List.concat_eq_append, lookM_append] at hq
      by_cases he : (lookM T id r).2 = 0
      · rw [if_pos he] at hq
        obtain ⟨y, j, hy, hyk, hm, hl⟩ := look_cons hq
        have : j = k := congrArg Prod.fst hl
        subst this
        obtain ⟨hab, _⟩ := one_name hT hx hn hy hm hk
        exact ⟨r, Prod.ext hab.symm he⟩
      · rw [if_neg he] at hq
        rw [hq] at he
        exact absurd rfl he
  · rintro ⟨q, hq⟩
    refine ⟨q ++ [n], ?_⟩
    rw [lookM_append, hq]
    simp only [if_pos]
    have := names_dir hT hx (aget_mem hn)
    simp only [lookM, hx, if_pos this, hn]
theorem names_move {T : TrM} {d1 d2 id : Int} {n1 n2 : Nm} {a : Int} {x : ItM} (h : aget a (setName (cutName T d1 n1) d2 n2 id) = some x) : ∃ y, aget a T = some y ∧ x.kind = y.kind ∧ ∀ e ∈ x.names, (e ∈ y.names ∧ ¬ (a = d1 ∧ e.1 = n1)) ∨ (a = d2 ∧ e = (n2, id)) := by
  obtain ⟨z, hz, hk, hc⟩ : ∃ z, aget a (cutName T d1 n1) = some z ∧ x.kind = z.kind ∧ ∀ e ∈ x.names, e ∈ z.names ∨ (a = d2 ∧ e = (n2, id)) := by
    unfold setName at h
    rw [aget_amod] at h
    by_cases hd : a = d2
    · rw [if_pos hd] at h
      cases hz : aget a (cutName T d1 n1) with
      | none => rw [hz] at h; cases h
      | some z =>
        rw [hz] at h
        simp only [Option.map_some, Option.some.injEq] at h
        refine ⟨z, rfl, by rw [← h], fun e he => ?_⟩
        rw [← h] at he
        rcases (mem_ains bytesBefore).1 he with h2 | h2
        · exact .inr ⟨hd, h2⟩
        · exact .inl (List.mem_filter.1 h2).1
    · rw [if_neg hd] at h; exact ⟨x, h, rfl, fun e he => .inl he⟩
  unfold cutName at hz
  rw [aget_amod] at hz
  by_cases hd : a = d1
  · rw [if_pos hd] at hz
    cases hy : aget a T with
    | none => rw [hy] at hz; cases hz
    | some y =>
      rw [hy] at hz
      simp only [Option.map_some, Option.some.injEq] at hz
      refine ⟨y, rfl, by rw [hk, ← hz], fun e he => ?_⟩
      rcases hc e he with h1 | h1
      · rw [← hz] at h1
        have h2 := List.mem_filter.1 h1
        refine .inl ⟨h2.1, fun h3 => ?_⟩
        have := h2.2
        simp [h3.2] at this
      · exact .inr h1
  · rw [if_neg hd] at hz
    refine ⟨z, hz, hk, fun e he => ?_⟩
    rcases hc e he with h1 | h1
    · exact .inl ⟨h1, fun h => hd h.1⟩
    · exact .inr h1
theorem kind_amod {T : TrM} {d : Int} {f : ItM → ItM} (hf : ∀ x, (f x).kind = x.kind) (k : Int) : kindM (amod d f T) k = kindM T k := by
  unfold kindM
  rw [aget_amod]
  by_cases h : k = d
  · rw [if_pos h]
    cases aget k T with
    | none => rfl
    | some y => exact hf y
  · rw [if_neg h]
theorem kind_move {T : TrM} {d1 d2 id : Int} {n1 n2 : Nm} (k : Int) : kindM (setName (cutName T d1 n1) d2 n2 id) k = kindM T k := by
  unfold setName cutName
  exact (kind_amod (fun _ => by exact rfl) k).trans (kind_amod (fun _ => by exact rfl) k)
open Classical in
theorem DepthOk.move {T : TrM} {dep : Int → Nat} (h : DepthOk T dep) (hT : OkM T) {p tq : List Nm} {id dt : Int} {nt : Nm} (hp : lookM T 0 p = (id, 0)) (h0 : id ≠ 0) (hto : placeM T tq = (dt, nt, 0)) (hf : tq.length ≤ 8) (hw : kindM T id = 2 → withinL tq p = false ∧ tq.length + deepM T 8 id ≤ 8) :
    ∃ dep', DepthOk (setName (cutName T (placeM T p).1 (placeM T p).2.1) dt nt id) dep' := by
  have hpn : p ≠ [] := fun e => by subst e; exact h0 (congrArg Prod.fst hp).symm
  obtain ⟨d1, x1, n1, e1, hl1, hx1, hk1, hn1, _, ep⟩ := place_of_look hp hpn
  rw [e1]
  obtain ⟨hln, hlt, hkt⟩ : tq ≠ [] ∧ lookM T 0 tq.dropLast = (dt, 0) ∧ kindM T dt = 2 := by
    unfold placeM at hto
    by_cases ht0 : tq = []
    · rw [if_pos ht0] at hto; cases hto
    · rw [if_neg ht0] at hto
      by_cases ht1 : (lookM T 0 tq.dropLast).2 ≠ 0
      · rw [if_pos ht1] at hto
        exact absurd (congrArg (·.2.2) hto) ht1
      · rw [if_neg ht1] at hto
        by_cases ht2 : kindM T (lookM T 0 tq.dropLast).1 = 2
        · rw [if_pos ht2] at hto
          have h3 : (lookM T 0 tq.dropLast).1 = dt := congrArg Prod.fst hto
          exact ⟨ht0, Prod.ext h3 (by simpa using ht1), h3 ▸ ht2⟩
        · rw [if_neg ht2] at hto; cases hto
  have hdt := dep_look h _ 0 dt hlt hkt
  rw [h.zero, List.length_dropLast] at hdt
  have htl : tq.length ≠ 0 := fun e => hln (List.eq_nil_of_length_eq_zero e)
  by_cases hk : kindM T id = 2
  · obtain ⟨hw1, hw2⟩ := hw hk
    have hdid := dep_look h p 0 id hp hk
    rw [h.zero] at hdid
    have hnt : ¬ Desc T id dt := by
      rintro ⟨q, hq⟩
      have h3 : lookM T 0 (p ++ q) = (dt, 0) := by rw [lookM_append, hp]; simp only [if_pos]; exact hq
      have h4 := one_path hT _ _ _ dt (Nat.le_refl _) hlt h3 hkt
      have h5 : tq.take p.length = p := by
        have h6 : tq.dropLast.take p.length = p := by rw [h4, List.take_left]
        have h7 : p.length ≤ tq.length - 1 := by
          have := congrArg List.length h4
          rw [List.length_dropLast, List.length_append] at this
          omega
        rw [List.dropLast_eq_take, List.take_take, Nat.min_eq_left h7] at h6
        exact h6
      unfold withinL at hw1
      rw [h5] at hw1
      simp at hw1
    refine ⟨fun d => if Desc T id d then dep d + tq.length - p.length else dep d, ?_, fun d x hx e he => ?_⟩
    · have : ¬ Desc T id 0 := by
        rintro ⟨q, hq⟩
        have h3 : lookM T 0 (p ++ q) = (0, 0) := by rw [lookM_append, hp]; simp only [if_pos]; exact hq
        have h4 := one_path hT 0 [] _ 0 (Nat.le_refl _) rfl h3 hT.root
        have := congrArg List.length h4
        rw [List.length_append] at this
        exact hpn (List.eq_nil_of_length_eq_zero (by simp at this; omega))
      simp only [if_neg this, h.zero]
    · obtain ⟨y, hy, hxy, hnm⟩ := names_move hx
      rw [kind_move]
      rcases hnm e he with ⟨hey, hne⟩ | ⟨hd, hee⟩
      · have hup := h.up d y hy e hey
        have hyk := names_dir hT hy hey
        have hn := aget_of_mem bbLt (hT.each d y hy).sorted hey
        by_cases hD : Desc T id d
        · obtain ⟨q, hq⟩ := hD
          have h3 := dep_look h q id d hq ((kindM_of hy).trans hyk)
          have hq8 : q.length < 8 := by have := hup.1; omega
          have h4 := deep_ge hT q id d y e 8 hq hy hey hq8
          simp only [if_pos (show Desc T id d from ⟨q, hq⟩)]
          refine ⟨by omega, fun hek => ?_⟩
          have hei : e.2 ≠ id := fun h5 => by
            obtain ⟨h6, h7⟩ := one_name hT hx1 hn1 hy (by rw [← h5]; exact hn) hk
            exact hne ⟨h6.symm, h7.symm⟩
          have := hup.2 hek
          rw [if_pos ((desc_dir hT hy hn hek hei).2 ⟨q, hq⟩)]
          omega
        · simp only [if_neg hD]
          refine ⟨hup.1, fun hek => ?_⟩
          have hei : e.2 ≠ id := fun h5 => by
            obtain ⟨h6, h7⟩ := one_name hT hx1 hn1 hy (by rw [← h5]; exact hn) hk
            exact hne ⟨h6.symm, h7.symm⟩
          rw [if_neg (fun h6 => hD ((desc_dir hT hy hn hek hei).1 h6))]
          exact hup.2 hek
      · subst hd hee
        simp only [if_neg hnt]
        refine ⟨by omega, fun _ => ?_⟩
        rw [if_pos ⟨[], rfl⟩]
        omega
  · refine ⟨dep, h.zero, fun d x hx e he => ?_⟩
    obtain ⟨y, hy, hxy, hnm⟩ := names_move hx
    rw [kind_move]
    rcases hnm e he with ⟨hey, _⟩ | ⟨hd, hee⟩
    · exact h.up d y hy e hey
    · subst hd hee
      exact ⟨by omega, fun h3 => absurd h3 hk⟩
end Go.Proofs.YtpgklnhkfgbpgaaGreatDoor
