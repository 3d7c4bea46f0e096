/- permafrostlaw11.do. -/
import Derived.Test.YtbapdoicejakhaaGreatM41
namespace Go.Proofs.YtbapdoicejakhaaGreat
open Go.ChangeShapes Go.WideShapes Go.ChangeAt Go.RowKit
set_option linter.unusedVariables false
set_option linter.unusedSimpArgs false

structure AskT where
  kind : Int
  P : Int
  to_ : Int
  dir : Bool
  id : Int
  at_ : Int
  n : Int
  b : List UInt8
  til : Int
structure AskT.Ok (x : AskT) : Prop where
  wk : (Lit.int .i64 x.kind).wf = true
  wp : (Lit.int .i64 x.P).wf = true
  wt : (Lit.int .i64 x.to_).wf = true
  wi : (Lit.int .i64 x.id).wf = true
  wa : (Lit.int .i64 x.at_).wf = true
  wn : (Lit.int .i64 x.n).wf = true
  wu : 0 ≤ x.til ∧ x.til ≤ 18446744073709551615
/-- The value of an Ask. -/
def askTV (ba : Option Addr) (bn bc : Nat) (x : AskT) : Value := .agg #[.int .i64 x.kind, .int .i64 x.P, .int .i64 x.to_, .bool x.dir, .int .i64 x.id, .int .i64 x.at_, .int .i64 x.n, .slice ba bn bc, .int .u64 x.til]
def askTC (ba : Option Addr) (bn bc : Nat) (x : AskT) : Array Value := #[.int .i64 x.kind, .int .i64 x.P, .int .i64 x.to_, .bool x.dir, .int .i64 x.id, .int .i64 x.at_, .int .i64 x.n, .slice ba bn bc, .int .u64 x.til]
theorem ask_cells {w : World} {q : Nat} {ba : Option Addr} {bn bc : Nat} {x : AskT} (h : w.heap[q]? = some (.cells (askTC ba bn bc x) 66 (0, 0))) : w.cell? ⟨q, 0, none⟩ = some (.int .i64 x.kind) ∧ w.cell? ⟨q, 1, none⟩ = some (.int .i64 x.P) ∧ w.cell? ⟨q, 2, none⟩ = some (.int .i64 x.to_) ∧ w.cell? ⟨q, 3, none⟩ = some (.bool x.dir) ∧ w.cell? ⟨q, 4, none⟩ = some (.int .i64 x.id) ∧ w.cell? ⟨q, 5, none⟩ = some (.int .i64 x.at_) ∧ w.cell? ⟨q, 6, none⟩ = some (.int .i64 x.n) ∧ w.cell? ⟨q, 7, none⟩ = some (.slice ba bn bc) ∧ w.cell? ⟨q, 8, none⟩ = some (.int .u64 x.til) := by
  refine ⟨?_, ?_, ?_, ?_, ?_, ?_, ?_, ?_, ?_⟩ <;> simp [World.cell?, h, askTC]
def DidT (W : World) (Q : Nat → Prop) (w : World) (t r : Nat) (e : Ending) (w' : World) : Prop :=
  e = .returned (.bool true) ∧ ∃ T', BothT W Q w' t r T' ∧ (∀ b, Q b → w'.heap[b]? = w.heap[b]?) ∧ w.heap.size ≤ w'.heap.size ∧ Below W.heap.size W w'
/-- Behind the call that was asked. -/
def MidT (W : World) (Q : Nat → Prop) (w : World) (t r : Nat) (wx : World) : Prop :=
  ∃ T', BothT W Q wx t r T' ∧ (∀ b, Q b → wx.heap[b]? = w.heap[b]?) ∧ w.heap.size ≤ wx.heap.size ∧ Below W.heap.size W wx
theorem InTurned.then_ {W w w1 w2 : World} {P : Nat → Prop} {t : Nat} {T : TrM} {v : Value} {e : Ending} (h : InTurned W P w t T v e w1) (hb : Below w1.heap.size w1 w2) : InTurned W P w t T v e w2 :=
  ⟨h.1, h.2.1.grow hb, h.2.2.trans (fp' := fun x => w1.heap.size ≤ x) (Keeps.below hb) fun x hx hf => by have := h.2.2.size; omega⟩
theorem InTurned.behind {W w0 w w1 : World} {P : Nat → Prop} {t : Nat} {T : TrM} {v : Value} {e : Ending} (h : InTurned W P w t T v e w1) (hb : Below w0.heap.size w0 w) : InTurned W P w0 t T v e w1 :=
  ⟨h.1, h.2.1, (Keeps.mono (Keeps.below hb) (fun x hx hf => by omega)).trans h.2.2 fun x _ hx => hx⟩
theorem BothP.okM {W w : World} {Q P F : Nat → Prop} {t r : Nat} {T : TrM} (h : BothP W Q P F w t r T) : OkM T := h.okay.1.1
theorem BothP.ok1 {W w : World} {Q P F : Nat → Prop} {t r : Nat} {T : TrM} (h : BothP W Q P F w t r T) : Okay T := h.okay.1
theorem InTurned.kp {W w w1 : World} {P : Nat → Prop} {t : Nat} {T : TrM} {v : Value} {e : Ending} (h : InTurned W P w t T v e w1) : Keeps (Wild W P) w w1 := h.2.2
theorem MidT.of {W w w1 w2 : World} {Q P F : Nat → Prop} {t r : Nat} {T T' : TrM} {v1 v2 : Value} {e1 e2 : Ending} (h : BothP W Q P F w t r T) (h1 : InTurned W P w t T' v1 e1 w1) (h2 : RTurn F w1 r T' v2 e2 w2) (hO : Oky T') : MidT W Q w t r w2 := ⟨T', h.step h1 h2 hO⟩
theorem MidT.rest {W w w1 : World} {Q P F : Nat → Prop} {t r : Nat} {T : TrM} (h : BothP W Q P F w t r T) (hb : Below w.heap.size w w1) : MidT W Q w t r w1 := ⟨T, h.rest hb⟩
/-- A row of the law's own behind a call that turns. -/
theorem strs_wild {W w w1 : World} {P S : Nat → Prop} {a : Option Addr} {n : Nat} {ss : List ByteArray} (h : StrsAt S w a n ss) (hS : ∀ b, S b → P b) (hK : Keeps (Wild W P) w w1) : StrsAt S w1 a n ss :=
  h.kept hK.size fun b hb hbw => hK.block b hbw fun hw => hw.2 (hS b hb)
theorem namesL_short (n : Int) : ∀ m ∈ namesL n, m.length ≤ 1 := by
  unfold namesL
  rw [List.getD_eq_getElem?_getD]
  cases h : namesTab[namesI n]? with
  | none => simp
  | some ls =>
    have hm := List.mem_of_getElem? h
    have : ∀ l ∈ namesTab, ∀ m ∈ l, m.length ≤ 1 := by decide
    exact this ls hm
theorem kind_any (ba : Option Addr) (bn bc : Nat) (x : AskT) (w : World) : Calls Tryz.prog 50 #[askTV ba bn bc x] w fun e w' => e = .returned (.int .i64 (if x.dir = true then 2 else 1)) ∧ Below w.heap.size w w' := by
  unfold askTV
  cases hd : x.dir with
  | true =>
    go_enter Tryz.func50, Tryz.ntmps50
    go_wp2
    go_ret
    exact ⟨rfl, wall w _⟩
  | false =>
    go_enter Tryz.func50, Tryz.ntmps50
    go_wp2
    go_ret
    exact ⟨rfl, wall w _⟩
set_option maxRecDepth 100000 in
set_option maxHeartbeats 32000000 in
theorem do11_any {W w : World} {Q P F : Nat → Prop} {t r : Nat} {T : TrM} (x : AskT) (ba : Option Addr) (bn bc : Nat) (hB : BothP W Q P F w t r T) (hx : x.Ok) (hbr : RowAt (fun b => b < W.heap.size) w ba bn (x.b.map bv)) (hbc : bn ≤ bc) (hbl : bn ≤ 140737488351232) :
    Calls Tryz.prog 43 #[ptr t, ptr r, askTV ba bn bc x] w (DidT W Q w t r) := by
  have HB := Lib.hid hB
  have HX := Lib.hid hx
  have HBR := Lib.hid hbr
  have hWw := hB.tree.below.size
  unfold askTV
  clear hB hx hbr
  go_enter Tryz.func43, Tryz.ntmps43
  go_wp2_with fail
  have hha : (w.alloc (.cells (askTC ba bn bc x) 66)).heap[w.heap.size]? = some (.cells (askTC ba bn bc x) 66) := (MapKept.heap_alloc w _).1
  have hBa : Below w.heap.size w (w.alloc (.cells (askTC ba bn bc x) 66)) := wall w _
  have hza : (w.alloc (.cells (askTC ba bn bc x) 66)).heap.size = w.heap.size + 1 := by simp
  unfold askTC at hha hBa hza
  generalize (w.alloc (.cells #[.int .i64 x.kind, .int .i64 x.P, .int .i64 x.to_, .bool x.dir, .int .i64 x.id, .int .i64 x.at_, .int .i64 x.n, .slice ba bn bc, .int .u64 x.til] 66)) = w1 at *
  obtain ⟨q, hq⟩ : ∃ q, q = w.heap.size := ⟨_, rfl⟩
  rw [← hq] at hha ⊢
  have HHA := Lib.hid hha
  obtain ⟨c0, c1, c2, c3, c4, c5, c6, c7, c8⟩ := ask_cells (q := q) (x := x) hha
  have HBA := Lib.hid hBa
  have HQE := Lib.hid hq
  have hqw : q < w1.heap.size := by omega
  have HKP : Hid (∀ w', Below w1.heap.size w1 w' → w'.cell? ⟨q, 1, none⟩ = some (.int .i64 x.P) ∧ w'.cell? ⟨q, 2, none⟩ = some (.int .i64 x.to_)) := fun w' hb => ⟨(hb.cell (p := ⟨q, 1, none⟩) hqw).trans c1, (hb.cell (p := ⟨q, 2, none⟩) hqw).trans c2⟩
  clear hha hBa hq c0 c3 c4 c5 c6 c7 c8
  refine wp_region_noPanic ?_
  refine wp_region_held_drew (S := (fun w' => w'.cell? ⟨q, 1, none⟩ = some (.int .i64 x.P) ∧ w'.cell? ⟨q, 2, none⟩ = some (.int .i64 x.to_))) (by kernel_rfl) ?_ (fun hS => ?_)
  · exact HKP.out _ (Below.refl _ _).drew
  refine wpAnyH_take (i := 0) (oi := ?oi1) (v := ?v1) ?hi1 (by kernel_rfl) (by kernel_rfl) (by kernel_rfl) ?hq1 (Or.inl ⟨?hw1, ?hy1⟩) hS ?rest1
  case hi1 => simp only [List.getElem?_toArray, List.getElem?_cons_succ, List.getElem?_cons_zero]; rfl
  case hq1 => exact fun _ _ _ h => h
  case hw1 => rfl
  case hy1 => intro w hSw; (try dsimp only at hSw); go_simp; (try with_reducible rfl)
  try simp only [Act.put, List.setIfInBounds_toArray, List.set_cons_zero, List.set_cons_succ]
  refine wpAnyH_take (i := 1) (oi := ?oi2) (v := ?v2) ?hi2 (by kernel_rfl) (by kernel_rfl) (by kernel_rfl) ?hq2 (Or.inl ⟨?hw2, ?hy2⟩) hS ?rest2
  case hi2 => simp only [List.getElem?_toArray, List.getElem?_cons_succ, List.getElem?_cons_zero]; rfl
  case hq2 => exact fun _ _ _ h => h
  case hw2 => rfl
  case hy2 => intro w hSw; (try dsimp only at hSw); go_simp; (try with_reducible rfl)
  try simp only [Act.put, List.setIfInBounds_toArray, List.set_cons_zero, List.set_cons_succ]
  refine wpAnyH_take (i := 3) (oi := ?oi3) (v := ?v3) ?hi3 (by kernel_rfl) (by kernel_rfl) (by kernel_rfl) ?hq3 (Or.inl ⟨?hw3, ?hy3⟩) hS ?rest3
  case hi3 => simp only [List.getElem?_toArray, List.getElem?_cons_succ, List.getElem?_cons_zero]; rfl
  case hq3 => exact fun _ _ _ h => h
  case hw3 => rfl
  case hy3 => intro w hSw; (try dsimp only at hSw); go_simp; (try with_reducible rfl)
  try simp only [Act.put, List.setIfInBounds_toArray, List.set_cons_zero, List.set_cons_succ]
  refine wpAnyH_take (i := 4) (oi := ?oi4) (v := ?v4) ?hi4 (by kernel_rfl) (by kernel_rfl) (by kernel_rfl) ?hq4 (Or.inl ⟨?hw4, ?hy4⟩) hS ?rest4
  case hi4 => simp only [List.getElem?_toArray, List.getElem?_cons_succ, List.getElem?_cons_zero]; rfl
  case hq4 => exact fun _ _ _ h => h
  case hw4 => rfl
  case hy4 => intro w hSw; (try dsimp only at hSw); go_simp; (try with_reducible rfl)
  try simp only [Act.put, List.setIfInBounds_toArray, List.set_cons_zero, List.set_cons_succ]
  refine wpAnyH_ready (rs := [2]) (by kernel_rfl) (by simp) ?_
  refine AllReadyH.cons (o := ?o5) ?ho5 (fun K hK => ?_) AllReadyH.nil
  case ho5 => simp only [List.getElem?_toArray, List.getElem?_cons_succ, List.getElem?_cons_zero]; rfl
  go_simp
  (with_reducible refine (names_any _ HX.out.wp _).mono ?_)
  rintro e w2 ⟨a1, k1, rfl, hk1, hs1, hb2⟩
  have hB12 : Below w1.heap.size w1 w2 := (Below.refl _ _).drew.trans hb2
  go_wp2_with fail
  refine hK.out _ _ (HKP.out _ hB12) (fun hS => ?_)
  clear hK K
  try simp only [Act.put, List.setIfInBounds_toArray, List.set_cons_zero, List.set_cons_succ]
  refine wpAnyH_ready (rs := [5]) (by kernel_rfl) (by simp) ?_
  refine AllReadyH.cons (o := ?o6) ?ho6 (fun K hK => ?_) AllReadyH.nil
  case ho6 => simp only [List.getElem?_toArray, List.getElem?_cons_succ, List.getElem?_cons_zero]; rfl
  go_simp
  (with_reducible refine (names_any _ HX.out.wt _).mono ?_)
  rintro e w3 ⟨a2, k2, rfl, hk2, hs2, hb3⟩
  have hB13 : Below w1.heap.size w1 w3 := hB12.trans (hb3.mono hB12.size)
  go_wp2_with fail
  refine hK.out _ _ (HKP.out _ hB13) (fun hS => ?_)
  clear hK K
  try simp only [Act.put, List.setIfInBounds_toArray, List.set_cons_zero, List.set_cons_succ]
  refine wpAnyH_take (i := 6) (oi := ?oi7) (v := ?v7) ?hi7 (by kernel_rfl) (by kernel_rfl) (by kernel_rfl) ?hq7 (Or.inl ⟨?hw7, ?hy7⟩) hS ?rest7
  case hi7 => simp only [List.getElem?_toArray, List.getElem?_cons_succ, List.getElem?_cons_zero]; rfl
  case hq7 => exact fun _ _ _ h => h
  case hw7 => rfl
  case hy7 => intro w hSw; (try dsimp only at hSw); go_simp; (try with_reducible rfl)
  try simp only [Act.put, List.setIfInBounds_toArray, List.set_cons_zero, List.set_cons_succ]
  refine wpAnyH_take (i := 7) (oi := ?oi8) (v := ?v8) ?hi8 (by kernel_rfl) (by kernel_rfl) (by kernel_rfl) ?hq8 (Or.inl ⟨?hw8, ?hy8⟩) hS ?rest8
  case hi8 => simp only [List.getElem?_toArray, List.getElem?_cons_succ, List.getElem?_cons_zero]; rfl
  case hq8 => exact fun _ _ _ h => h
  case hw8 => rfl
  case hy8 => intro w hSw; (try dsimp only at hSw); go_simp; (try with_reducible rfl)
  try simp only [Act.put, List.setIfInBounds_toArray, List.set_cons_zero, List.set_cons_succ]
  refine wpAnyH_done (by kernel_rfl) ?_ _
  refine NoPanic.normal ?_
  clear hS
  have HS1 : Hid (StrsAt (fun b => w1.heap.size ≤ b ∧ b < w3.heap.size) w3 a1 (namesL x.P).length ((namesL x.P).map strOf)) := by
    refine (hs1.below hb3 (Nat.le_refl _)).mono fun b hb => ⟨hb.1, ?_⟩
    have := hb3.size
    omega
  have HS2 : Hid (StrsAt (fun b => w1.heap.size ≤ b ∧ b < w3.heap.size) w3 a2 (namesL x.to_).length ((namesL x.to_).map strOf)) := by
    refine hs2.mono fun b hb => ⟨?_, hb.2⟩
    have := hB12.size
    omega
  have HSH1 := Lib.hid (namesL_short x.P)
  have HSH2 := Lib.hid (namesL_short x.to_)
  have hn1 := namesL_small x.P
  have hn2 := namesL_small x.to_
  generalize hg1 : namesL x.P = l1 at *
  generalize hg2 : namesL x.to_ = l2 at *
  obtain ⟨m1, hm1⟩ : ∃ m, m = l1.length := ⟨_, rfl⟩
  obtain ⟨m2, hm2⟩ : ∃ m, m = l2.length := ⟨_, rfl⟩
  rw [← hm1] at hk1 hn1 HS1 ⊢
  rw [← hm2] at hk2 hn2 HS2 ⊢
  have hh3 : w3.heap[q]? = some (.cells (askTC ba bn bc x) 66 (0, 0)) := (hB13.block q hqw).trans HHA.out
  have HH3 := Lib.hid hh3
  have hB03 : Below w.heap.size w w3 := HBA.out.trans (hB13.mono (by omega))
  have hBP := HB.out.shield hB03
  have hq3 : q < w3.heap.size := by have := hB13.size; omega
  have HQP : Hid ((fun z => Q z ∨ (w.heap.size ≤ z ∧ z < w3.heap.size)) q ∧ (fun z => P z ∨ (w.heap.size ≤ z ∧ z < w3.heap.size)) q) := ⟨.inr ⟨by have := HQE.out; omega, hq3⟩, .inr ⟨by have := HQE.out; omega, hq3⟩⟩
  have HSP : Hid (∀ b, w1.heap.size ≤ b ∧ b < w3.heap.size → (fun z => P z ∨ (w.heap.size ≤ z ∧ z < w3.heap.size)) b) := fun b hb => .inr ⟨by omega, hb.2⟩
  have HSQ : Hid (∀ b, w1.heap.size ≤ b ∧ b < w3.heap.size → (fun z => Q z ∨ (w.heap.size ≤ z ∧ z < w3.heap.size)) b) := fun b hb => .inr ⟨by omega, hb.2⟩
  have HSR : Hid (∀ b, w1.heap.size ≤ b ∧ b < w3.heap.size → b ≠ r) := fun b hb he => by
    have := HB.out.ref.low r HB.out.ref.own
    omega
  have HB3R := Lib.hid (HBR.out.below hB03 (Nat.le_refl _))
  have HB03 := Lib.hid hB03
  have HQQ : Hid (∀ z, Q z → (fun z => Q z ∨ (w.heap.size ≤ z ∧ z < w3.heap.size)) z) := fun z hz => .inl hz
  generalize hQ1 : (fun z => Q z ∨ (w.heap.size ≤ z ∧ z < w3.heap.size)) = Q1 at hBP HQP HQQ HSQ
  generalize hP1 : (fun z => P z ∨ (w.heap.size ≤ z ∧ z < w3.heap.size)) = P1 at hBP HQP HSP
  have HBP := Lib.hid hBP
  obtain ⟨c0, c1', c2', c3, c4, c5, c6, c7, c8⟩ := ask_cells hh3
  have HCT : Hid (∀ wz : World, Calls Tryz.prog 45 #[.slice ba bn bc, .int .i64 100] wz fun e w' => e = .returned (.slice ba (min bn 100) bc) ∧ wz = w') := fun wz => cut_any ba bn bc 100 hbc (by omega) (by unfold maxLen; omega) wz
  clear hs1 hs2 hb2 hb3 hB12 hB13 hg1 hg2 hm1 hm2 hh3 hB03 hBP hQ1 hP1 c1 c2
  go_wp2_with fail
  (with_reducible refine (HCT.out _).mono ?_)
  rintro e w4 ⟨rfl, rfl⟩
  have hWr : W.heap.size ≤ r := (HB.out.inP r HB.out.ref.own).2
  have HROW : Hid (RowAt (fun b => b < W.heap.size) w3 ba (min bn 100) ((x.b.take 100).map bv)) := by
    have := HB3R.out.take 100
    rwa [← List.map_take] at this
  have hbn100 : min bn 100 ≤ 100 := Nat.min_le_right _ _
  have HROWK : Hid (∀ w6, Keeps (Wild W P1) w3 w6 → RowAt (fun b => b < W.heap.size) w6 ba (min bn 100) ((x.b.take 100).map bv)) := fun w6 hK => HROW.out.kept hK.size fun b hb hbw => hK.block b hbw fun hw => by have := hw.1; omega
  have HWLT : Hid (∀ b, b < W.heap.size → b ≠ r) := fun b hb he => by omega
  generalize min bn 100 = bm at *
  go_upto_block 0 with (fail)
  go_cut [] (fun wx => MidT W Q1 w3 t r wx)
  case first =>
    by_cases hk : x.kind = 1
    · have e1 : (x.kind == 1) = true := by simpa using hk
      clear hk
      as_aux_lemma =>
        have HKD : Hid (∀ wz, Calls Tryz.prog 50 #[askTV ba bn bc x] wz fun e w' => e = .returned (.int .i64 (if x.dir = true then 2 else 1)) ∧ Below wz.heap.size wz w') := fun wz => kind_any ba bn bc x wz
        generalize (if x.dir = true then 2 else 1 : Int) = kd at HKD
        unfold askTV at HKD
        go_wp2_with fail
        (with_reducible refine (HKD.out _).mono ?_)
        rintro e w5 ⟨rfl, hb5⟩
        have HB5 := Lib.hid hb5
        clear hb5
        go_wp2_with fail
        (with_reducible refine (in_make (HBP.out.tree.grow HB5.out) a1 m1 k1 l1 kd (HS1.out.below HB5.out (Nat.le_refl _)) hk1 (by omega)).mono ?_)
        rintro e w6 ht6
        have HT6 := Lib.hid (ht6.behind HB5.out)
        obtain rfl := ht6.1
        clear ht6
        have hh6 := (HT6.out.kp.block q hq3 (fun hw => hw.2 HQP.out.2)).trans HH3.out
        obtain ⟨d0, d1, d2, d3, d4, d5, d6, d7, d8⟩ := ask_cells hh6
        clear hh6
        have hq6 : q < w6.heap.size := Nat.lt_of_lt_of_le hq3 HT6.out.kp.size
        go_wp2_with fail
        (with_reducible refine (HKD.out _).mono ?_)
        rintro e w7 ⟨rfl, hb7⟩
        have HB7 := Lib.hid hb7
        clear hb7
        go_wp2_with fail
        (with_reducible refine (rmake_any a1 m1 k1 l1 kd w7 ((HBP.out.mid HT6.out).below HB7.out (Nat.le_refl _)) HBP.out.okM ((strs_wild HS1.out HSP.out HT6.out.kp).below HB7.out (Nat.le_refl _)) hk1 (by omega)).mono ?_)
        rintro e w8 ht8
        have HT8 := Lib.hid ht8
        obtain rfl := ht8.1
        clear ht8
        go_wp2_with fail
        go_meet
        exact MidT.of HBP.out (HT6.out.then_ HB7.out) HT8.out (HBP.out.okay.makeM HSH1.out _)
    · have e1 : (x.kind == 1) = false := by simpa using hk
      clear hk
      by_cases hk : x.kind = 2
      · have e2 : (x.kind == 2) = true := by simpa using hk
        clear hk
        as_aux_lemma =>
          go_wp2_with fail
          (with_reducible refine (in_link HBP.out.tree a1 m1 k1 l1 a2 m2 k2 l2 HS1.out HS2.out hk2 (by omega)).mono ?_)
          rintro e w6 ht6
          have HT6 := Lib.hid ht6
          obtain rfl := ht6.1
          clear ht6
          go_wp2_with fail
          (with_reducible refine (rlink_any a1 m1 k1 l1 a2 m2 k2 l2 w6 (HBP.out.mid HT6.out) HBP.out.okM (strs_wild HS1.out HSP.out HT6.out.kp) (strs_wild HS2.out HSP.out HT6.out.kp) hk2 (by omega)).mono ?_)
          rintro e w8 ht8
          have HT8 := Lib.hid ht8
          obtain rfl := ht8.1
          clear ht8
          go_wp2_with fail
          go_meet
          exact MidT.of HBP.out HT6.out HT8.out (HBP.out.okay.linkM _ HSH2.out)
      · have e2 : (x.kind == 2) = false := by simpa using hk
        clear hk
        by_cases hk : x.kind = 3
        · have e3 : (x.kind == 3) = true := by simpa using hk
          clear hk
          as_aux_lemma =>
            go_wp2_with fail
            (with_reducible refine (in_unlink HBP.out.tree a1 m1 k1 l1 HS1.out hk1 (by omega)).mono ?_)
            rintro e w6 ht6
            have HT6 := Lib.hid ht6
            obtain rfl := ht6.1
            clear ht6
            go_wp2_with fail
            (with_reducible refine (runlink_any a1 m1 k1 l1 w6 (HBP.out.mid HT6.out) HBP.out.okM (strs_wild HS1.out HSP.out HT6.out.kp) hk1 (by omega)).mono ?_)
            rintro e w8 ht8
            have HT8 := Lib.hid ht8
            obtain rfl := ht8.1
            clear ht8
            go_wp2_with fail
            go_meet
            exact MidT.of HBP.out HT6.out HT8.out (HBP.out.okay.unlinkM _)
        · have e3 : (x.kind == 3) = false := by simpa using hk
          clear hk
          by_cases hk : x.kind = 4
          · have e4 : (x.kind == 4) = true := by simpa using hk
            clear hk
            as_aux_lemma =>
              go_wp2_with fail
              (with_reducible refine (in_rmdir HBP.out.tree a1 m1 k1 l1 HS1.out hk1 (by omega)).mono ?_)
              rintro e w6 ht6
              have HT6 := Lib.hid ht6
              obtain rfl := ht6.1
              clear ht6
              go_wp2_with fail
              (with_reducible refine (rrmdir_any a1 m1 k1 l1 w6 (HBP.out.mid HT6.out) HBP.out.okM (strs_wild HS1.out HSP.out HT6.out.kp) hk1 (by omega)).mono ?_)
              rintro e w8 ht8
              have HT8 := Lib.hid ht8
              obtain rfl := ht8.1
              clear ht8
              go_wp2_with fail
              go_meet
              exact MidT.of HBP.out HT6.out HT8.out (HBP.out.okay.rmdirM _)
          · have e4 : (x.kind == 4) = false := by simpa using hk
            clear hk
            by_cases hk : x.kind = 5
            · have e5 : (x.kind == 5) = true := by simpa using hk
              clear hk
              as_aux_lemma =>
                go_wp2_with fail
                (with_reducible refine (in_rename HBP.out.tree HBP.out.ok1 a1 m1 k1 l1 a2 m2 k2 l2 HS1.out HS2.out hk1 (by omega) hk2 (by omega)).mono ?_)
                rintro e w6 ht6
                have HT6 := Lib.hid ht6
                obtain rfl := ht6.1
                clear ht6
                go_wp2_with fail
                (with_reducible refine (rrename_any a1 m1 k1 l1 a2 m2 k2 l2 w6 (HBP.out.mid HT6.out) HBP.out.ok1 (strs_wild HS1.out HSP.out HT6.out.kp) (strs_wild HS2.out HSP.out HT6.out.kp) hk1 (by omega) hk2 (by omega)).mono ?_)
                rintro e w8 ht8
                have HT8 := Lib.hid ht8
                obtain rfl := ht8.1
                clear ht8
                go_wp2_with fail
                go_meet
                exact MidT.of HBP.out HT6.out HT8.out (HBP.out.okay.renameM _ HSH2.out)
            · have e5 : (x.kind == 5) = false := by simpa using hk
              clear hk
              by_cases hk : x.kind = 6
              · have e6 : (x.kind == 6) = true := by simpa using hk
                clear hk
                as_aux_lemma =>
                  have HKQ : Hid (∀ w', Keeps (Wild W P1) w3 w' → w'.cell? ⟨q, 4, none⟩ = some (.int .i64 x.id) ∧ w'.cell? ⟨q, 8, none⟩ = some (.int .u64 x.til)) := fun w' hK => by
                    have hh6 := (hK.block q hq3 (fun hw => hw.2 HQP.out.2)).trans HH3.out
                    obtain ⟨d0, d1, d2, d3, d4, d5, d6, d7, d8⟩ := ask_cells hh6
                    exact ⟨d4, d8⟩
                  have HDR := Lib.hid (HBP.out.below (Below.refl _ _).drew)
                  go_wp2_with fail
                  refine wp_region_noPanic ?_
                  refine wp_region_held_drew (S := (fun w' => w'.cell? ⟨q, 4, none⟩ = some (.int .i64 x.id) ∧ w'.cell? ⟨q, 8, none⟩ = some (.int .u64 x.til))) (by kernel_rfl) ?_ (fun hS => ?_)
                  · exact ⟨c4, c8⟩
                  refine wpAnyH_take (i := 0) (oi := ?oi9) (v := ?v9) ?hi9 (by kernel_rfl) (by kernel_rfl) (by kernel_rfl) ?hq9 (Or.inl ⟨?hw9, ?hy9⟩) hS ?rest9
                  case hi9 => simp only [List.getElem?_toArray, List.getElem?_cons_succ, List.getElem?_cons_zero]; rfl
                  case hq9 => exact fun _ _ _ h => h
                  case hw9 => rfl
                  case hy9 => intro w hSw; (try dsimp only at hSw); go_simp; (try with_reducible rfl)
                  try simp only [Act.put, List.setIfInBounds_toArray, List.set_cons_zero, List.set_cons_succ]
                  refine wpAnyH_take (i := 1) (oi := ?oi10) (v := ?v10) ?hi10 (by kernel_rfl) (by kernel_rfl) (by kernel_rfl) ?hq10 (Or.inl ⟨?hw10, ?hy10⟩) hS ?rest10
                  case hi10 => simp only [List.getElem?_toArray, List.getElem?_cons_succ, List.getElem?_cons_zero]; rfl
                  case hq10 => exact fun _ _ _ h => h
                  case hw10 => rfl
                  case hy10 => intro w hSw; (try dsimp only at hSw); go_simp; (try with_reducible rfl)
                  try simp only [Act.put, List.setIfInBounds_toArray, List.set_cons_zero, List.set_cons_succ]
                  refine wpAnyH_take (i := 2) (oi := ?oi11) (v := ?v11) ?hi11 (by kernel_rfl) (by kernel_rfl) (by kernel_rfl) ?hq11 (Or.inl ⟨?hw11, ?hy11⟩) hS ?rest11
                  case hi11 => simp only [List.getElem?_toArray, List.getElem?_cons_succ, List.getElem?_cons_zero]; rfl
                  case hq11 => exact fun _ _ _ h => h
                  case hw11 => rfl
                  case hy11 => intro w hSw; (try dsimp only at hSw); go_simp; (try with_reducible rfl)
                  try simp only [Act.put, List.setIfInBounds_toArray, List.set_cons_zero, List.set_cons_succ]
                  refine wpAnyH_take (i := 3) (oi := ?oi12) (v := ?v12) ?hi12 (by kernel_rfl) (by kernel_rfl) (by kernel_rfl) ?hq12 (Or.inl ⟨?hw12, ?hy12⟩) hS ?rest12
                  case hi12 => simp only [List.getElem?_toArray, List.getElem?_cons_succ, List.getElem?_cons_zero]; rfl
                  case hq12 => exact fun _ _ _ h => h
                  case hw12 => rfl
                  case hy12 => intro w hSw; (try dsimp only at hSw); go_simp; (try with_reducible rfl)
                  try simp only [Act.put, List.setIfInBounds_toArray, List.set_cons_zero, List.set_cons_succ]
                  refine wpAnyH_take (i := 5) (oi := ?oi13) (v := ?v13) ?hi13 (by kernel_rfl) (by kernel_rfl) (by kernel_rfl) ?hq13 (Or.inl ⟨?hw13, ?hy13⟩) hS ?rest13
                  case hi13 => simp only [List.getElem?_toArray, List.getElem?_cons_succ, List.getElem?_cons_zero]; rfl
                  case hq13 => exact fun _ _ _ h => h
                  case hw13 => rfl
                  case hy13 => intro w hSw; (try dsimp only at hSw); go_simp; (try with_reducible rfl)
                  try simp only [Act.put, List.setIfInBounds_toArray, List.set_cons_zero, List.set_cons_succ]
                  refine wpAnyH_take (i := 6) (oi := ?oi14) (v := ?v14) ?hi14 (by kernel_rfl) (by kernel_rfl) (by kernel_rfl) ?hq14 (Or.inl ⟨?hw14, ?hy14⟩) hS ?rest14
                  case hi14 => simp only [List.getElem?_toArray, List.getElem?_cons_succ, List.getElem?_cons_zero]; rfl
                  case hq14 => exact fun _ _ _ h => h
                  case hw14 => rfl
                  case hy14 => intro w hSw; (try dsimp only at hSw); go_simp; (try with_reducible rfl)
                  try simp only [Act.put, List.setIfInBounds_toArray, List.set_cons_zero, List.set_cons_succ]
                  refine wpAnyH_take (i := 7) (oi := ?oi15) (v := ?v15) ?hi15 (by kernel_rfl) (by kernel_rfl) (by kernel_rfl) ?hq15 (Or.inl ⟨?hw15, ?hy15⟩) hS ?rest15
                  case hi15 => simp only [List.getElem?_toArray, List.getElem?_cons_succ, List.getElem?_cons_zero]; rfl
                  case hq15 => exact fun _ _ _ h => h
                  case hw15 => rfl
                  case hy15 => intro w hSw; (try dsimp only at hSw); go_simp; (try with_reducible rfl)
                  try simp only [Act.put, List.setIfInBounds_toArray, List.set_cons_zero, List.set_cons_succ]
                  refine wpAnyH_take (i := 8) (oi := ?oi16) (v := ?v16) ?hi16 (by kernel_rfl) (by kernel_rfl) (by kernel_rfl) ?hq16 (Or.inl ⟨?hw16, ?hy16⟩) hS ?rest16
                  case hi16 => simp only [List.getElem?_toArray, List.getElem?_cons_succ, List.getElem?_cons_zero]; rfl
                  case hq16 => exact fun _ _ _ h => h
                  case hw16 => rfl
                  case hy16 => intro w hSw; (try dsimp only at hSw); go_simp; (try with_reducible rfl)
                  try simp only [Act.put, List.setIfInBounds_toArray, List.set_cons_zero, List.set_cons_succ]
                  refine wpAnyH_ready (rs := [4]) (by kernel_rfl) (by simp) ?_
                  refine AllReadyH.cons (o := ?o17) ?ho17 (fun K hK => ?_) AllReadyH.nil
                  case ho17 => simp only [List.getElem?_toArray, List.getElem?_cons_succ, List.getElem?_cons_zero]; rfl
                  go_simp
                  (with_reducible refine (in_append HDR.out.tree x.id ba bm bc (x.b.take 100) HX.out.wi (HROW.out.below (Below.refl _ _).drew (Nat.le_refl _)) (by omega)).mono ?_)
                  rintro e w6 ht6
                  have HT6 := Lib.hid (ht6.behind (Below.refl _ _).drew)
                  obtain rfl := ht6.1
                  clear ht6
                  go_wp2_with fail
                  refine hK.out _ _ (HKQ.out _ HT6.out.kp) (fun hS => ?_)
                  clear hK K
                  try simp only [Act.put, List.setIfInBounds_toArray, List.set_cons_zero, List.set_cons_succ]
                  refine wpAnyH_ready (rs := [9]) (by kernel_rfl) (by simp) ?_
                  refine AllReadyH.cons (o := ?o18) ?ho18 (fun K hK => ?_) AllReadyH.nil
                  case ho18 => simp only [List.getElem?_toArray, List.getElem?_cons_succ, List.getElem?_cons_zero]; rfl
                  go_simp
                  (with_reducible refine (rappend_any x.id ba bm bc (x.b.take 100) w6 (HBP.out.mid HT6.out) HBP.out.okM (HROWK.out w6 HT6.out.kp) HWLT.out (by omega)).mono ?_)
                  rintro e w8 ht8
                  have HT8 := Lib.hid ht8
                  obtain rfl := ht8.1
                  have hS8 : w8.cell? ⟨q, 4, none⟩ = some (.int .i64 x.id) ∧ w8.cell? ⟨q, 8, none⟩ = some (.int .u64 x.til) := by
                    have hq6 : q < w6.heap.size := Nat.lt_of_lt_of_le hq3 HT6.out.kp.size
                    have h9 := HKQ.out _ HT6.out.kp
                    have hqr : q ≠ r := fun he => by
                      have := HB.out.ref.low r HB.out.ref.own
                      have := HQE.out
                      omega
                    exact ⟨(ht8.2.1.cell_ hq6 hqr 4).trans h9.1, (ht8.2.1.cell_ hq6 hqr 8).trans h9.2⟩
                  clear ht8
                  go_wp2_with fail
                  refine hK.out _ _ (hS8) (fun hS => ?_)
                  clear hK K
                  try simp only [Act.put, List.setIfInBounds_toArray, List.set_cons_zero, List.set_cons_succ]
                  refine wpAnyH_take (i := 10) (oi := ?oi19) (v := ?v19) ?hi19 (by kernel_rfl) (by kernel_rfl) (by kernel_rfl) ?hq19 (Or.inl ⟨?hw19, ?hy19⟩) hS ?rest19
                  case hi19 => simp only [List.getElem?_toArray, List.getElem?_cons_succ, List.getElem?_cons_zero]; rfl
                  case hq19 => exact fun _ _ _ h => h
                  case hw19 => rfl
                  case hy19 => intro w hSw; (try dsimp only at hSw); go_simp; (try with_reducible rfl)
                  try simp only [Act.put, List.setIfInBounds_toArray, List.set_cons_zero, List.set_cons_succ]
                  refine wpAnyH_done (by kernel_rfl) ?_ _
                  refine NoPanic.normal ?_
                  clear hS
                  go_wp2_with fail
                  go_meet
                  exact MidT.of HBP.out HT6.out HT8.out (HBP.out.okay.appendM _ _)
              · have e6 : (x.kind == 6) = false := by simpa using hk
                clear hk
                by_cases hk : x.kind = 7
                · have e7 : (x.kind == 7) = true := by simpa using hk
                  clear hk
                  as_aux_lemma =>
                    go_wp2_with fail
                    (with_reducible refine (in_read HBP.out.tree x.id x.at_ x.n HX.out.wi HX.out.wa HX.out.wn).mono ?_)
                    rintro e w6 ⟨a6, n6, k6, rfl, -, hr6, hb6⟩
                    have HB6 := Lib.hid hb6
                    have HR6 := Lib.hid hr6
                    have HRR := Lib.hid (rread_any x.id x.at_ x.n w6 (HBP.out.ref.below hb6 (Nat.le_refl _)) HBP.out.okM.toOkP HX.out.wa HX.out.wn)
                    have d4 := (hb6.cell (p := ⟨q, 4, none⟩) hq3).trans c4
                    have d5 := (hb6.cell (p := ⟨q, 5, none⟩) hq3).trans c5
                    have d6 := (hb6.cell (p := ⟨q, 6, none⟩) hq3).trans c6
                    clear hb6 hr6
                    generalize readB T x.id x.at_ x.n = rb at *
                    generalize readE T x.id x.at_ x.n = re at *
                    go_wp2_with fail
                    (with_reducible refine HRR.out.mono ?_)
                    rintro e w7 ⟨a7, n7, k7, rfl, hr7, rfl⟩
                    have hcv1 : (convert 51 9 (.slice a6 n6 k6)).run Tryz.prog w6 = .ok (.string (strOf rb)) w6 := conv_row HR6.out
                    have hcv2 : (convert 51 9 (.slice a7 n7 k7)).run Tryz.prog w6 = .ok (.string (strOf rb)) w6 := conv_row hr7
                    clear hr7
                    go_wp2_with fail
                    go_meet
                    exact MidT.rest HBP.out HB6.out
                · have e7 : (x.kind == 7) = false := by simpa using hk
                  clear hk
                  by_cases hk : x.kind = 8
                  · have e8 : (x.kind == 8) = true := by simpa using hk
                    clear hk
                    as_aux_lemma =>
                      have HKQ : Hid (∀ w', Keeps (Wild W P1) w3 w' → w'.cell? ⟨q, 4, none⟩ = some (.int .i64 x.id) ∧ w'.cell? ⟨q, 8, none⟩ = some (.int .u64 x.til)) := fun w' hK => by
                        have hh6 := (hK.block q hq3 (fun hw => hw.2 HQP.out.2)).trans HH3.out
                        obtain ⟨d0, d1, d2, d3, d4, d5, d6, d7, d8⟩ := ask_cells hh6
                        exact ⟨d4, d8⟩
                      have HDR := Lib.hid (HBP.out.below (Below.refl _ _).drew)
                      go_wp2_with fail
                      refine wp_region_noPanic ?_
                      refine wp_region_held_drew (S := (fun w' => w'.cell? ⟨q, 4, none⟩ = some (.int .i64 x.id) ∧ w'.cell? ⟨q, 8, none⟩ = some (.int .u64 x.til))) (by kernel_rfl) ?_ (fun hS => ?_)
                      · exact ⟨c4, c8⟩
                      refine wpAnyH_take (i := 0) (oi := ?oi20) (v := ?v20) ?hi20 (by kernel_rfl) (by kernel_rfl) (by kernel_rfl) ?hq20 (Or.inl ⟨?hw20, ?hy20⟩) hS ?rest20
                      case hi20 => simp only [List.getElem?_toArray, List.getElem?_cons_succ, List.getElem?_cons_zero]; rfl
                      case hq20 => exact fun _ _ _ h => h
                      case hw20 => rfl
                      case hy20 => intro w hSw; (try dsimp only at hSw); go_simp; (try with_reducible rfl)
                      try simp only [Act.put, List.setIfInBounds_toArray, List.set_cons_zero, List.set_cons_succ]
                      refine wpAnyH_take (i := 1) (oi := ?oi21) (v := ?v21) ?hi21 (by kernel_rfl) (by kernel_rfl) (by kernel_rfl) ?hq21 (Or.inl ⟨?hw21, ?hy21⟩) hS ?rest21
                      case hi21 => simp only [List.getElem?_toArray, List.getElem?_cons_succ, List.getElem?_cons_zero]; rfl
                      case hq21 => exact fun _ _ _ h => h
                      case hw21 => rfl
                      case hy21 => intro w hSw; (try dsimp only at hSw); go_simp; (try with_reducible rfl)
                      try simp only [Act.put, List.setIfInBounds_toArray, List.set_cons_zero, List.set_cons_succ]
                      refine wpAnyH_take (i := 2) (oi := ?oi22) (v := ?v22) ?hi22 (by kernel_rfl) (by kernel_rfl) (by kernel_rfl) ?hq22 (Or.inl ⟨?hw22, ?hy22⟩) hS ?rest22
                      case hi22 => simp only [List.getElem?_toArray, List.getElem?_cons_succ, List.getElem?_cons_zero]; rfl
                      case hq22 => exact fun _ _ _ h => h
                      case hw22 => rfl
                      case hy22 => intro w hSw; (try dsimp only at hSw); go_simp; (try with_reducible rfl)
                      try simp only [Act.put, List.setIfInBounds_toArray, List.set_cons_zero, List.set_cons_succ]
                      refine wpAnyH_take (i := 3) (oi := ?oi23) (v := ?v23) ?hi23 (by kernel_rfl) (by kernel_rfl) (by kernel_rfl) ?hq23 (Or.inl ⟨?hw23, ?hy23⟩) hS ?rest23
                      case hi23 => simp only [List.getElem?_toArray, List.getElem?_cons_succ, List.getElem?_cons_zero]; rfl
                      case hq23 => exact fun _ _ _ h => h
                      case hw23 => rfl
                      case hy23 => intro w hSw; (try dsimp only at hSw); go_simp; (try with_reducible rfl)
                      try simp only [Act.put, List.setIfInBounds_toArray, List.set_cons_zero, List.set_cons_succ]
                      refine wpAnyH_take (i := 4) (oi := ?oi24) (v := ?v24) ?hi24 (by kernel_rfl) (by kernel_rfl) (by kernel_rfl) ?hq24 (Or.inl ⟨?hw24, ?hy24⟩) hS ?rest24
                      case hi24 => simp only [List.getElem?_toArray, List.getElem?_cons_succ, List.getElem?_cons_zero]; rfl
                      case hq24 => exact fun _ _ _ h => h
                      case hw24 => rfl
                      case hy24 => intro w hSw; (try dsimp only at hSw); go_simp; (try with_reducible rfl)
                      try simp only [Act.put, List.setIfInBounds_toArray, List.set_cons_zero, List.set_cons_succ]
                      refine wpAnyH_take (i := 6) (oi := ?oi25) (v := ?v25) ?hi25 (by kernel_rfl) (by kernel_rfl) (by kernel_rfl) ?hq25 (Or.inl ⟨?hw25, ?hy25⟩) hS ?rest25
                      case hi25 => simp only [List.getElem?_toArray, List.getElem?_cons_succ, List.getElem?_cons_zero]; rfl
                      case hq25 => exact fun _ _ _ h => h
                      case hw25 => rfl
                      case hy25 => intro w hSw; (try dsimp only at hSw); go_simp; (try with_reducible rfl)
                      try simp only [Act.put, List.setIfInBounds_toArray, List.set_cons_zero, List.set_cons_succ]
                      refine wpAnyH_take (i := 7) (oi := ?oi26) (v := ?v26) ?hi26 (by kernel_rfl) (by kernel_rfl) (by kernel_rfl) ?hq26 (Or.inl ⟨?hw26, ?hy26⟩) hS ?rest26
                      case hi26 => simp only [List.getElem?_toArray, List.getElem?_cons_succ, List.getElem?_cons_zero]; rfl
                      case hq26 => exact fun _ _ _ h => h
                      case hw26 => rfl
                      case hy26 => intro w hSw; (try dsimp only at hSw); go_simp; (try with_reducible rfl)
                      try simp only [Act.put, List.setIfInBounds_toArray, List.set_cons_zero, List.set_cons_succ]
                      refine wpAnyH_take (i := 8) (oi := ?oi27) (v := ?v27) ?hi27 (by kernel_rfl) (by kernel_rfl) (by kernel_rfl) ?hq27 (Or.inl ⟨?hw27, ?hy27⟩) hS ?rest27
                      case hi27 => simp only [List.getElem?_toArray, List.getElem?_cons_succ, List.getElem?_cons_zero]; rfl
                      case hq27 => exact fun _ _ _ h => h
                      case hw27 => rfl
                      case hy27 => intro w hSw; (try dsimp only at hSw); go_simp; (try with_reducible rfl)
                      try simp only [Act.put, List.setIfInBounds_toArray, List.set_cons_zero, List.set_cons_succ]
                      refine wpAnyH_take (i := 9) (oi := ?oi28) (v := ?v28) ?hi28 (by kernel_rfl) (by kernel_rfl) (by kernel_rfl) ?hq28 (Or.inl ⟨?hw28, ?hy28⟩) hS ?rest28
                      case hi28 => simp only [List.getElem?_toArray, List.getElem?_cons_succ, List.getElem?_cons_zero]; rfl
                      case hq28 => exact fun _ _ _ h => h
                      case hw28 => rfl
                      case hy28 => intro w hSw; (try dsimp only at hSw); go_simp; (try with_reducible rfl)
                      try simp only [Act.put, List.setIfInBounds_toArray, List.set_cons_zero, List.set_cons_succ]
                      refine wpAnyH_take (i := 10) (oi := ?oi29) (v := ?v29) ?hi29 (by kernel_rfl) (by kernel_rfl) (by kernel_rfl) ?hq29 (Or.inl ⟨?hw29, ?hy29⟩) hS ?rest29
                      case hi29 => simp only [List.getElem?_toArray, List.getElem?_cons_succ, List.getElem?_cons_zero]; rfl
                      case hq29 => exact fun _ _ _ h => h
                      case hw29 => rfl
                      case hy29 => intro w hSw; (try dsimp only at hSw); go_simp; (try with_reducible rfl)
                      try simp only [Act.put, List.setIfInBounds_toArray, List.set_cons_zero, List.set_cons_succ]
                      refine wpAnyH_ready (rs := [5]) (by kernel_rfl) (by simp) ?_
                      refine AllReadyH.cons (o := ?o30) ?ho30 (fun K hK => ?_) AllReadyH.nil
                      case ho30 => simp only [List.getElem?_toArray, List.getElem?_cons_succ, List.getElem?_cons_zero]; rfl
                      go_simp
                      (with_reducible refine (in_seal HDR.out.tree x.id x.til HX.out.wi HX.out.wu.1 HX.out.wu.2).mono ?_)
                      rintro e w6 ht6
                      have HT6 := Lib.hid (ht6.behind (Below.refl _ _).drew)
                      obtain rfl := ht6.1
                      clear ht6
                      go_wp2_with fail
                      refine hK.out _ _ (HKQ.out _ HT6.out.kp) (fun hS => ?_)
                      clear hK K
                      try simp only [Act.put, List.setIfInBounds_toArray, List.set_cons_zero, List.set_cons_succ]
                      refine wpAnyH_ready (rs := [11]) (by kernel_rfl) (by simp) ?_
                      refine AllReadyH.cons (o := ?o31) ?ho31 (fun K hK => ?_) AllReadyH.nil
                      case ho31 => simp only [List.getElem?_toArray, List.getElem?_cons_succ, List.getElem?_cons_zero]; rfl
                      go_simp
                      (with_reducible refine (rseal_any x.id x.til w6 (HBP.out.mid HT6.out) HBP.out.okM HX.out.wu).mono ?_)
                      rintro e w8 ht8
                      have HT8 := Lib.hid ht8
                      obtain rfl := ht8.1
                      have hS8 : w8.cell? ⟨q, 4, none⟩ = some (.int .i64 x.id) ∧ w8.cell? ⟨q, 8, none⟩ = some (.int .u64 x.til) := by
                        have hq6 : q < w6.heap.size := Nat.lt_of_lt_of_le hq3 HT6.out.kp.size
                        have h9 := HKQ.out _ HT6.out.kp
                        have hqr : q ≠ r := fun he => by
                          have := HB.out.ref.low r HB.out.ref.own
                          have := HQE.out
                          omega
                        exact ⟨(ht8.2.1.cell_ hq6 hqr 4).trans h9.1, (ht8.2.1.cell_ hq6 hqr 8).trans h9.2⟩
                      clear ht8
                      go_wp2_with fail
                      refine hK.out _ _ (hS8) (fun hS => ?_)
                      clear hK K
                      try simp only [Act.put, List.setIfInBounds_toArray, List.set_cons_zero, List.set_cons_succ]
                      refine wpAnyH_take (i := 12) (oi := ?oi32) (v := ?v32) ?hi32 (by kernel_rfl) (by kernel_rfl) (by kernel_rfl) ?hq32 (Or.inl ⟨?hw32, ?hy32⟩) hS ?rest32
                      case hi32 => simp only [List.getElem?_toArray, List.getElem?_cons_succ, List.getElem?_cons_zero]; rfl
                      case hq32 => exact fun _ _ _ h => h
                      case hw32 => rfl
                      case hy32 => intro w hSw; (try dsimp only at hSw); go_simp; (try with_reducible rfl)
                      try simp only [Act.put, List.setIfInBounds_toArray, List.set_cons_zero, List.set_cons_succ]
                      refine wpAnyH_done (by kernel_rfl) ?_ _
                      refine NoPanic.normal ?_
                      clear hS
                      go_wp2_with fail
                      go_meet
                      exact MidT.of HBP.out HT6.out HT8.out (HBP.out.okay.sealM _ _ HX.out.wu.1)
                  · have e8 : (x.kind == 8) = false := by simpa using hk
                    clear hk
                    by_cases hk : x.kind = 9
                    · have e9 : (x.kind == 9) = true := by simpa using hk
                      clear hk
                      as_aux_lemma =>
                        have HKQ : Hid (∀ w', Keeps (Wild W P1) w3 w' → w'.cell? ⟨q, 4, none⟩ = some (.int .i64 x.id) ∧ w'.cell? ⟨q, 8, none⟩ = some (.int .u64 x.til)) := fun w' hK => by
                          have hh6 := (hK.block q hq3 (fun hw => hw.2 HQP.out.2)).trans HH3.out
                          obtain ⟨d0, d1, d2, d3, d4, d5, d6, d7, d8⟩ := ask_cells hh6
                          exact ⟨d4, d8⟩
                        have HDR := Lib.hid (HBP.out.below (Below.refl _ _).drew)
                        go_wp2_with fail
                        refine wp_region_noPanic ?_
                        refine wp_region_held_drew (S := (fun w' => w'.cell? ⟨q, 4, none⟩ = some (.int .i64 x.id) ∧ w'.cell? ⟨q, 8, none⟩ = some (.int .u64 x.til))) (by kernel_rfl) ?_ (fun hS => ?_)
                        · exact ⟨c4, c8⟩
                        refine wpAnyH_take (i := 0) (oi := ?oi33) (v := ?v33) ?hi33 (by kernel_rfl) (by kernel_rfl) (by kernel_rfl) ?hq33 (Or.inl ⟨?hw33, ?hy33⟩) hS ?rest33
                        case hi33 => simp only [List.getElem?_toArray, List.getElem?_cons_succ, List.getElem?_cons_zero]; rfl
                        case hq33 => exact fun _ _ _ h => h
                        case hw33 => rfl
                        case hy33 => intro w hSw; (try dsimp only at hSw); go_simp; (try with_reducible rfl)
                        try simp only [Act.put, List.setIfInBounds_toArray, List.set_cons_zero, List.set_cons_succ]
                        refine wpAnyH_take (i := 1) (oi := ?oi34) (v := ?v34) ?hi34 (by kernel_rfl) (by kernel_rfl) (by kernel_rfl) ?hq34 (Or.inl ⟨?hw34, ?hy34⟩) hS ?rest34
                        case hi34 => simp only [List.getElem?_toArray, List.getElem?_cons_succ, List.getElem?_cons_zero]; rfl
                        case hq34 => exact fun _ _ _ h => h
                        case hw34 => rfl
                        case hy34 => intro w hSw; (try dsimp only at hSw); go_simp; (try with_reducible rfl)
                        try simp only [Act.put, List.setIfInBounds_toArray, List.set_cons_zero, List.set_cons_succ]
                        refine wpAnyH_take (i := 2) (oi := ?oi35) (v := ?v35) ?hi35 (by kernel_rfl) (by kernel_rfl) (by kernel_rfl) ?hq35 (Or.inl ⟨?hw35, ?hy35⟩) hS ?rest35
                        case hi35 => simp only [List.getElem?_toArray, List.getElem?_cons_succ, List.getElem?_cons_zero]; rfl
                        case hq35 => exact fun _ _ _ h => h
                        case hw35 => rfl
                        case hy35 => intro w hSw; (try dsimp only at hSw); go_simp; (try with_reducible rfl)
                        try simp only [Act.put, List.setIfInBounds_toArray, List.set_cons_zero, List.set_cons_succ]
                        refine wpAnyH_take (i := 3) (oi := ?oi36) (v := ?v36) ?hi36 (by kernel_rfl) (by kernel_rfl) (by kernel_rfl) ?hq36 (Or.inl ⟨?hw36, ?hy36⟩) hS ?rest36
                        case hi36 => simp only [List.getElem?_toArray, List.getElem?_cons_succ, List.getElem?_cons_zero]; rfl
                        case hq36 => exact fun _ _ _ h => h
                        case hw36 => rfl
                        case hy36 => intro w hSw; (try dsimp only at hSw); go_simp; (try with_reducible rfl)
                        try simp only [Act.put, List.setIfInBounds_toArray, List.set_cons_zero, List.set_cons_succ]
                        refine wpAnyH_take (i := 4) (oi := ?oi37) (v := ?v37) ?hi37 (by kernel_rfl) (by kernel_rfl) (by kernel_rfl) ?hq37 (Or.inl ⟨?hw37, ?hy37⟩) hS ?rest37
                        case hi37 => simp only [List.getElem?_toArray, List.getElem?_cons_succ, List.getElem?_cons_zero]; rfl
                        case hq37 => exact fun _ _ _ h => h
                        case hw37 => rfl
                        case hy37 => intro w hSw; (try dsimp only at hSw); go_simp; (try with_reducible rfl)
                        try simp only [Act.put, List.setIfInBounds_toArray, List.set_cons_zero, List.set_cons_succ]
                        refine wpAnyH_take (i := 6) (oi := ?oi38) (v := ?v38) ?hi38 (by kernel_rfl) (by kernel_rfl) (by kernel_rfl) ?hq38 (Or.inl ⟨?hw38, ?hy38⟩) hS ?rest38
                        case hi38 => simp only [List.getElem?_toArray, List.getElem?_cons_succ, List.getElem?_cons_zero]; rfl
                        case hq38 => exact fun _ _ _ h => h
                        case hw38 => rfl
                        case hy38 => intro w hSw; (try dsimp only at hSw); go_simp; (try with_reducible rfl)
                        try simp only [Act.put, List.setIfInBounds_toArray, List.set_cons_zero, List.set_cons_succ]
                        refine wpAnyH_take (i := 7) (oi := ?oi39) (v := ?v39) ?hi39 (by kernel_rfl) (by kernel_rfl) (by kernel_rfl) ?hq39 (Or.inl ⟨?hw39, ?hy39⟩) hS ?rest39
                        case hi39 => simp only [List.getElem?_toArray, List.getElem?_cons_succ, List.getElem?_cons_zero]; rfl
                        case hq39 => exact fun _ _ _ h => h
                        case hw39 => rfl
                        case hy39 => intro w hSw; (try dsimp only at hSw); go_simp; (try with_reducible rfl)
                        try simp only [Act.put, List.setIfInBounds_toArray, List.set_cons_zero, List.set_cons_succ]
                        refine wpAnyH_take (i := 8) (oi := ?oi40) (v := ?v40) ?hi40 (by kernel_rfl) (by kernel_rfl) (by kernel_rfl) ?hq40 (Or.inl ⟨?hw40, ?hy40⟩) hS ?rest40
                        case hi40 => simp only [List.getElem?_toArray, List.getElem?_cons_succ, List.getElem?_cons_zero]; rfl
                        case hq40 => exact fun _ _ _ h => h
                        case hw40 => rfl
                        case hy40 => intro w hSw; (try dsimp only at hSw); go_simp; (try with_reducible rfl)
                        try simp only [Act.put, List.setIfInBounds_toArray, List.set_cons_zero, List.set_cons_succ]
                        refine wpAnyH_take (i := 9) (oi := ?oi41) (v := ?v41) ?hi41 (by kernel_rfl) (by kernel_rfl) (by kernel_rfl) ?hq41 (Or.inl ⟨?hw41, ?hy41⟩) hS ?rest41
                        case hi41 => simp only [List.getElem?_toArray, List.getElem?_cons_succ, List.getElem?_cons_zero]; rfl
                        case hq41 => exact fun _ _ _ h => h
                        case hw41 => rfl
                        case hy41 => intro w hSw; (try dsimp only at hSw); go_simp; (try with_reducible rfl)
                        try simp only [Act.put, List.setIfInBounds_toArray, List.set_cons_zero, List.set_cons_succ]
                        refine wpAnyH_take (i := 10) (oi := ?oi42) (v := ?v42) ?hi42 (by kernel_rfl) (by kernel_rfl) (by kernel_rfl) ?hq42 (Or.inl ⟨?hw42, ?hy42⟩) hS ?rest42
                        case hi42 => simp only [List.getElem?_toArray, List.getElem?_cons_succ, List.getElem?_cons_zero]; rfl
                        case hq42 => exact fun _ _ _ h => h
                        case hw42 => rfl
                        case hy42 => intro w hSw; (try dsimp only at hSw); go_simp; (try with_reducible rfl)
                        try simp only [Act.put, List.setIfInBounds_toArray, List.set_cons_zero, List.set_cons_succ]
                        refine wpAnyH_ready (rs := [5]) (by kernel_rfl) (by simp) ?_
                        refine AllReadyH.cons (o := ?o43) ?ho43 (fun K hK => ?_) AllReadyH.nil
                        case ho43 => simp only [List.getElem?_toArray, List.getElem?_cons_succ, List.getElem?_cons_zero]; rfl
                        go_simp
                        (with_reducible refine (in_keep HDR.out.tree x.id x.til HX.out.wi HX.out.wu.1 HX.out.wu.2).mono ?_)
                        rintro e w6 ht6
                        have HT6 := Lib.hid (ht6.behind (Below.refl _ _).drew)
                        obtain rfl := ht6.1
                        clear ht6
                        go_wp2_with fail
                        refine hK.out _ _ (HKQ.out _ HT6.out.kp) (fun hS => ?_)
                        clear hK K
                        try simp only [Act.put, List.setIfInBounds_toArray, List.set_cons_zero, List.set_cons_succ]
                        refine wpAnyH_ready (rs := [11]) (by kernel_rfl) (by simp) ?_
                        refine AllReadyH.cons (o := ?o44) ?ho44 (fun K hK => ?_) AllReadyH.nil
                        case ho44 => simp only [List.getElem?_toArray, List.getElem?_cons_succ, List.getElem?_cons_zero]; rfl
                        go_simp
                        (with_reducible refine (rkeep_any x.id x.til w6 (HBP.out.mid HT6.out) HBP.out.okM HX.out.wu).mono ?_)
                        rintro e w8 ht8
                        have HT8 := Lib.hid ht8
                        obtain rfl := ht8.1
                        have hS8 : w8.cell? ⟨q, 4, none⟩ = some (.int .i64 x.id) ∧ w8.cell? ⟨q, 8, none⟩ = some (.int .u64 x.til) := by
                          have hq6 : q < w6.heap.size := Nat.lt_of_lt_of_le hq3 HT6.out.kp.size
                          have h9 := HKQ.out _ HT6.out.kp
                          have hqr : q ≠ r := fun he => by
                            have := HB.out.ref.low r HB.out.ref.own
                            have := HQE.out
                            omega
                          exact ⟨(ht8.2.1.cell_ hq6 hqr 4).trans h9.1, (ht8.2.1.cell_ hq6 hqr 8).trans h9.2⟩
                        clear ht8
                        go_wp2_with fail
                        refine hK.out _ _ (hS8) (fun hS => ?_)
                        clear hK K
                        try simp only [Act.put, List.setIfInBounds_toArray, List.set_cons_zero, List.set_cons_succ]
                        refine wpAnyH_take (i := 12) (oi := ?oi45) (v := ?v45) ?hi45 (by kernel_rfl) (by kernel_rfl) (by kernel_rfl) ?hq45 (Or.inl ⟨?hw45, ?hy45⟩) hS ?rest45
                        case hi45 => simp only [List.getElem?_toArray, List.getElem?_cons_succ, List.getElem?_cons_zero]; rfl
                        case hq45 => exact fun _ _ _ h => h
                        case hw45 => rfl
                        case hy45 => intro w hSw; (try dsimp only at hSw); go_simp; (try with_reducible rfl)
                        try simp only [Act.put, List.setIfInBounds_toArray, List.set_cons_zero, List.set_cons_succ]
                        refine wpAnyH_done (by kernel_rfl) ?_ _
                        refine NoPanic.normal ?_
                        clear hS
                        go_wp2_with fail
                        go_meet
                        exact MidT.of HBP.out HT6.out HT8.out (HBP.out.okay.keepM _ _ HX.out.wu.1)
                    · have e9 : (x.kind == 9) = false := by simpa using hk
                      clear hk
                      by_cases hk : x.kind = 10
                      · have e10 : (x.kind == 10) = true := by simpa using hk
                        clear hk
                        as_aux_lemma =>
                          have HKQ : Hid (∀ w', Keeps (Wild W P1) w3 w' → w'.cell? ⟨q, 4, none⟩ = some (.int .i64 x.id) ∧ w'.cell? ⟨q, 8, none⟩ = some (.int .u64 x.til)) := fun w' hK => by
                            have hh6 := (hK.block q hq3 (fun hw => hw.2 HQP.out.2)).trans HH3.out
                            obtain ⟨d0, d1, d2, d3, d4, d5, d6, d7, d8⟩ := ask_cells hh6
                            exact ⟨d4, d8⟩
                          have HDR := Lib.hid (HBP.out.below (Below.refl _ _).drew)
                          go_wp2_with fail
                          refine wp_region_noPanic ?_
                          refine wp_region_held_drew (S := (fun w' => w'.cell? ⟨q, 4, none⟩ = some (.int .i64 x.id) ∧ w'.cell? ⟨q, 8, none⟩ = some (.int .u64 x.til))) (by kernel_rfl) ?_ (fun hS => ?_)
                          · exact ⟨c4, c8⟩
                          refine wpAnyH_take (i := 0) (oi := ?oi46) (v := ?v46) ?hi46 (by kernel_rfl) (by kernel_rfl) (by kernel_rfl) ?hq46 (Or.inl ⟨?hw46, ?hy46⟩) hS ?rest46
                          case hi46 => simp only [List.getElem?_toArray, List.getElem?_cons_succ, List.getElem?_cons_zero]; rfl
                          case hq46 => exact fun _ _ _ h => h
                          case hw46 => rfl
                          case hy46 => intro w hSw; (try dsimp only at hSw); go_simp; (try with_reducible rfl)
                          try simp only [Act.put, List.setIfInBounds_toArray, List.set_cons_zero, List.set_cons_succ]
                          refine wpAnyH_take (i := 1) (oi := ?oi47) (v := ?v47) ?hi47 (by kernel_rfl) (by kernel_rfl) (by kernel_rfl) ?hq47 (Or.inl ⟨?hw47, ?hy47⟩) hS ?rest47
                          case hi47 => simp only [List.getElem?_toArray, List.getElem?_cons_succ, List.getElem?_cons_zero]; rfl
                          case hq47 => exact fun _ _ _ h => h
                          case hw47 => rfl
                          case hy47 => intro w hSw; (try dsimp only at hSw); go_simp; (try with_reducible rfl)
                          try simp only [Act.put, List.setIfInBounds_toArray, List.set_cons_zero, List.set_cons_succ]
                          refine wpAnyH_take (i := 2) (oi := ?oi48) (v := ?v48) ?hi48 (by kernel_rfl) (by kernel_rfl) (by kernel_rfl) ?hq48 (Or.inl ⟨?hw48, ?hy48⟩) hS ?rest48
                          case hi48 => simp only [List.getElem?_toArray, List.getElem?_cons_succ, List.getElem?_cons_zero]; rfl
                          case hq48 => exact fun _ _ _ h => h
                          case hw48 => rfl
                          case hy48 => intro w hSw; (try dsimp only at hSw); go_simp; (try with_reducible rfl)
                          try simp only [Act.put, List.setIfInBounds_toArray, List.set_cons_zero, List.set_cons_succ]
                          refine wpAnyH_take (i := 4) (oi := ?oi49) (v := ?v49) ?hi49 (by kernel_rfl) (by kernel_rfl) (by kernel_rfl) ?hq49 (Or.inl ⟨?hw49, ?hy49⟩) hS ?rest49
                          case hi49 => simp only [List.getElem?_toArray, List.getElem?_cons_succ, List.getElem?_cons_zero]; rfl
                          case hq49 => exact fun _ _ _ h => h
                          case hw49 => rfl
                          case hy49 => intro w hSw; (try dsimp only at hSw); go_simp; (try with_reducible rfl)
                          try simp only [Act.put, List.setIfInBounds_toArray, List.set_cons_zero, List.set_cons_succ]
                          refine wpAnyH_take (i := 5) (oi := ?oi50) (v := ?v50) ?hi50 (by kernel_rfl) (by kernel_rfl) (by kernel_rfl) ?hq50 (Or.inl ⟨?hw50, ?hy50⟩) hS ?rest50
                          case hi50 => simp only [List.getElem?_toArray, List.getElem?_cons_succ, List.getElem?_cons_zero]; rfl
                          case hq50 => exact fun _ _ _ h => h
                          case hw50 => rfl
                          case hy50 => intro w hSw; (try dsimp only at hSw); go_simp; (try with_reducible rfl)
                          try simp only [Act.put, List.setIfInBounds_toArray, List.set_cons_zero, List.set_cons_succ]
                          refine wpAnyH_take (i := 6) (oi := ?oi51) (v := ?v51) ?hi51 (by kernel_rfl) (by kernel_rfl) (by kernel_rfl) ?hq51 (Or.inl ⟨?hw51, ?hy51⟩) hS ?rest51
                          case hi51 => simp only [List.getElem?_toArray, List.getElem?_cons_succ, List.getElem?_cons_zero]; rfl
                          case hq51 => exact fun _ _ _ h => h
                          case hw51 => rfl
                          case hy51 => intro w hSw; (try dsimp only at hSw); go_simp; (try with_reducible rfl)
                          try simp only [Act.put, List.setIfInBounds_toArray, List.set_cons_zero, List.set_cons_succ]
                          refine wpAnyH_ready (rs := [3]) (by kernel_rfl) (by simp) ?_
                          refine AllReadyH.cons (o := ?o52) ?ho52 (fun K hK => ?_) AllReadyH.nil
                          case ho52 => simp only [List.getElem?_toArray, List.getElem?_cons_succ, List.getElem?_cons_zero]; rfl
                          go_simp
                          (with_reducible refine (in_drop HDR.out.tree x.id HX.out.wi).mono ?_)
                          rintro e w6 ht6
                          have HT6 := Lib.hid (ht6.behind (Below.refl _ _).drew)
                          obtain rfl := ht6.1
                          clear ht6
                          go_wp2_with fail
                          refine hK.out _ _ (HKQ.out _ HT6.out.kp) (fun hS => ?_)
                          clear hK K
                          try simp only [Act.put, List.setIfInBounds_toArray, List.set_cons_zero, List.set_cons_succ]
                          refine wpAnyH_ready (rs := [7]) (by kernel_rfl) (by simp) ?_
                          refine AllReadyH.cons (o := ?o53) ?ho53 (fun K hK => ?_) AllReadyH.nil
                          case ho53 => simp only [List.getElem?_toArray, List.getElem?_cons_succ, List.getElem?_cons_zero]; rfl
                          go_simp
                          (with_reducible refine (rdrop_any x.id w6 (HBP.out.mid HT6.out) HBP.out.okM).mono ?_)
                          rintro e w8 ht8
                          have HT8 := Lib.hid ht8
                          obtain rfl := ht8.1
                          have hS8 : w8.cell? ⟨q, 4, none⟩ = some (.int .i64 x.id) ∧ w8.cell? ⟨q, 8, none⟩ = some (.int .u64 x.til) := by
                            have hq6 : q < w6.heap.size := Nat.lt_of_lt_of_le hq3 HT6.out.kp.size
                            have h9 := HKQ.out _ HT6.out.kp
                            have hqr : q ≠ r := fun he => by
                              have := HB.out.ref.low r HB.out.ref.own
                              have := HQE.out
                              omega
                            exact ⟨(ht8.2.1.cell_ hq6 hqr 4).trans h9.1, (ht8.2.1.cell_ hq6 hqr 8).trans h9.2⟩
                          clear ht8
                          go_wp2_with fail
                          refine hK.out _ _ (hS8) (fun hS => ?_)
                          clear hK K
                          try simp only [Act.put, List.setIfInBounds_toArray, List.set_cons_zero, List.set_cons_succ]
                          refine wpAnyH_take (i := 8) (oi := ?oi54) (v := ?v54) ?hi54 (by kernel_rfl) (by kernel_rfl) (by kernel_rfl) ?hq54 (Or.inl ⟨?hw54, ?hy54⟩) hS ?rest54
                          case hi54 => simp only [List.getElem?_toArray, List.getElem?_cons_succ, List.getElem?_cons_zero]; rfl
                          case hq54 => exact fun _ _ _ h => h
                          case hw54 => rfl
                          case hy54 => intro w hSw; (try dsimp only at hSw); go_simp; (try with_reducible rfl)
                          try simp only [Act.put, List.setIfInBounds_toArray, List.set_cons_zero, List.set_cons_succ]
                          refine wpAnyH_done (by kernel_rfl) ?_ _
                          refine NoPanic.normal ?_
                          clear hS
                          go_wp2_with fail
                          go_meet
                          exact MidT.of HBP.out HT6.out HT8.out (HBP.out.okay.dropM _)
                      · have e10 : (x.kind == 10) = false := by simpa using hk
                        clear hk
                        go_wp2_with fail
                        go_meet
                        exact MidT.rest HBP.out (Below.refl _ _)
  case rest =>
    as_aux_lemma =>
      obtain ⟨T2, ⟨P2, F2, hBP2⟩, hkp, hsz, hBW⟩ := hcut
      obtain ⟨w5, rfl⟩ : ∃ w5 : World, w5 = wc := ⟨_, rfl⟩
      have hS1 : StrsAt (fun b => w1.heap.size ≤ b ∧ b < w3.heap.size) w5 a1 m1 (l1.map strOf) := HS1.out.kept hsz fun b hb hbw => hkp b (HSQ.out b hb)
      have hh5 := (hkp q HQP.out.1).trans HH3.out
      have HKP2 := Lib.hid (fun b (hb : Q b) => (hkp b (HQQ.out b hb)).trans (HB03.out.block b (HB.out.tree.low b (HB.out.inQ b hb).1)))
      have hsz0 : w.heap.size ≤ w5.heap.size := by have := HB03.out.size; omega
      have hq5 : q < w5.heap.size := by omega
      have HB2 := Lib.hid (hBP2.mono HQQ.out)
      have HS5 := Lib.hid hS1
      obtain ⟨d0, d1, d2, d3, d4, d5, d6, d7, d8⟩ := ask_cells hh5
      have hE2 : (entsM T2).length ≤ 1000000 := by have := ents_few hBP2.okM; omega
      have H1 := Lib.hid (in_look HB2.out.tree a1 m1 k1 l1 hS1)
      have H2 := Lib.hid (fun wz (hb : Below w5.heap.size w5 wz) => rLook_any a1 m1 k1 l1 wz (HB2.out.ref.below hb (Nat.le_refl _)) HB2.out.okM hE2 (HS5.out.below hb (Nat.le_refl _)))
      have H3 := Lib.hid (fun wz (hb : Below w5.heap.size w5 wz) => in_node (HB2.out.tree.grow hb) x.id HX.out.wi)
      have H4 := Lib.hid (fun wz (hb : Below w5.heap.size w5 wz) => rnode_any x.id wz (HB2.out.ref.below hb (Nat.le_refl _)) HB2.out.okM.toOkP)
      have H5 := Lib.hid (fun wz (hb : Below w5.heap.size w5 wz) => in_list (HB2.out.tree.grow hb) x.id HX.out.wi)
      have H6 := Lib.hid (fun wz (hb : Below w5.heap.size w5 wz) => rlist_any x.id wz (HB2.out.ref.below hb (Nat.le_refl _)) HB2.out.okM)
      have H7 := Lib.hid (fun wz (hb : Below w5.heap.size w5 wz) => in_count (HB2.out.tree.grow hb))
      obtain ⟨v0, v1, v2, v3, v4, v5, hv⟩ : ∃ (v0 v1 v2 v3 v4 : Int) (v5 : Bool), nodeM T2 x.id = .agg #[.int .i64 v0, .int .i64 v1, .int .i64 v2, .int .i64 v3, .int .u64 v4, .bool v5] := by
        unfold nodeM
        cases aget x.id T2 with
        | none => exact ⟨_, _, _, _, _, _, rfl⟩
        | some y => exact ⟨_, _, _, _, _, _, rfl⟩
      rw [hv] at H3 H4
      have HRN := Lib.hid (fun wz (hb : Below w5.heap.size w5 wz) => (HB2.out.ref.below hb (Nat.le_refl _)).nodes)
      have hr5 : r < w5.heap.size := HB2.out.ref.low r HB2.out.ref.own
      generalize (aget x.id T2).isSome = sm at *
      generalize lookE T2 l1 = lk at *
      generalize hlm : listM T2 x.id = lm at *
      clear hBP2 hkp hh5 hS1 hE2 hv hBW d0 d1 d2 d3 d5 d6 d7 d8 hlm c0 c1' c2' c3 c4 c5 c6 c7 c8
      go_wp2_with fail
      (with_reducible refine H1.out.mono ?_)
      rintro e w6 ⟨rfl, hb6⟩
      have HB6 := Lib.hid hb6
      have e4 := (hb6.cell (p := ⟨q, 4, none⟩) hq5).trans d4
      clear hb6
      go_wp2_with fail
      (with_reducible refine (H2.out w6 HB6.out).mono ?_)
      rintro e w7 ⟨rfl, hb7⟩
      have HB7 := Lib.hid (HB6.out.trans (hb7.mono HB6.out.size))
      have d4 := (HB7.out.cell (p := ⟨q, 4, none⟩) hq5).trans d4
      clear hb7 e4
      go_wp2_with fail
      (with_reducible refine (H3.out w7 HB7.out).mono ?_)
      rintro e w8 ⟨rfl, hb8⟩
      have HB8 := Lib.hid (HB7.out.trans (hb8.mono HB7.out.size))
      have hs8 := HB8.out.size
      clear hb8
      have hna := (MapKept.heap_alloc w8 (.cells #[.int .i64 v0, .int .i64 v1, .int .i64 v2, .int .i64 v3, .int .u64 v4, .bool v5] 29)).1
      have HB8a := Lib.hid (HB8.out.trans ((wall w8 (.cells #[.int .i64 v0, .int .i64 v1, .int .i64 v2, .int .i64 v3, .int .u64 v4, .bool v5] 29)).mono hs8))
      have HNA := Lib.hid hna
      clear hna
      have d4a := (HB8a.out.cell (p := ⟨q, 4, none⟩) hq5).trans ((HB7.out.cell (p := ⟨q, 4, none⟩) hq5).symm.trans d4)
      go_wp2_with fail
      have hz8a : (w8.alloc (.cells #[.int .i64 v0, .int .i64 v1, .int .i64 v2, .int .i64 v3, .int .u64 v4, .bool v5] 29)).heap.size = w8.heap.size + 1 := by simp
      generalize (w8.alloc (.cells #[.int .i64 v0, .int .i64 v1, .int .i64 v2, .int .i64 v3, .int .u64 v4, .bool v5] 29)) = w8a at *
      obtain ⟨qa, hqa⟩ : ∃ qa, qa = w8.heap.size := ⟨_, rfl⟩
      rw [← hqa] at HNA ⊢
      have hqaw : qa < w8a.heap.size := by omega
      clear hqa hz8a
      (with_reducible refine (H4.out w8a HB8a.out).mono ?_)
      rintro e w9 ⟨rfl, hb9⟩
      have HB9 := Lib.hid (HB8a.out.trans (hb9.mono HB8a.out.size))
      have hs9 := HB9.out.size
      have hqa9 : qa < w9.heap.size := by have := hb9.size; omega
      have HNA9 := Lib.hid ((hb9.block qa hqaw).trans HNA.out)
      have hnb := (MapKept.heap_alloc w9 (.cells #[.int .i64 v0, .int .i64 v1, .int .i64 v2, .int .i64 v3, .int .u64 v4, .bool v5] 29)).1
      have HB9a := Lib.hid (HB9.out.trans ((wall w9 (.cells #[.int .i64 v0, .int .i64 v1, .int .i64 v2, .int .i64 v3, .int .u64 v4, .bool v5] 29)).mono hs9))
      have HNB := Lib.hid hnb
      have HNA9a := Lib.hid (((wall w9 (.cells #[.int .i64 v0, .int .i64 v1, .int .i64 v2, .int .i64 v3, .int .u64 v4, .bool v5] 29)).block qa hqa9).trans HNA9.out)
      have d4b := (HB9a.out.cell (p := ⟨q, 4, none⟩) hq5).trans ((HB8a.out.cell (p := ⟨q, 4, none⟩) hq5).symm.trans d4a)
      have hz9a : (w9.alloc (.cells #[.int .i64 v0, .int .i64 v1, .int .i64 v2, .int .i64 v3, .int .u64 v4, .bool v5] 29)).heap.size = w9.heap.size + 1 := by simp
      clear hnb hb9
      go_wp2_with fail
      generalize (w9.alloc (.cells #[.int .i64 v0, .int .i64 v1, .int .i64 v2, .int .i64 v3, .int .u64 v4, .bool v5] 29)) = w9a at *
      obtain ⟨qb, hqb⟩ : ∃ qb, qb = w9.heap.size := ⟨_, rfl⟩
      rw [← hqb] at HNB ⊢
      have hqbw : qb < w9a.heap.size := by omega
      have hqaw9 : qa < w9a.heap.size := by omega
      clear hqb hz9a
      (with_reducible refine (H5.out w9a HB9a.out).mono ?_)
      rintro e w10 ⟨a3, k3, rfl, hk3, hs3, hb10⟩
      have HB10 := Lib.hid (HB9a.out.trans (hb10.mono HB9a.out.size))
      have d4c := (HB10.out.cell (p := ⟨q, 4, none⟩) hq5).trans ((HB9a.out.cell (p := ⟨q, 4, none⟩) hq5).symm.trans d4b)
      have HNA10 := Lib.hid ((hb10.block qa hqaw9).trans HNA9a.out)
      have HNB10 := Lib.hid ((hb10.block qb hqbw).trans HNB.out)
      have HS3 := Lib.hid hs3
      have hz10 := hb10.size
      clear hs3 hb10
      go_wp2_with fail
      (with_reducible refine (H6.out w10 HB10.out).mono ?_)
      rintro e w11 ⟨a4, k4, rfl, hk4, hs4, hb11⟩
      have HB11 := Lib.hid (HB10.out.trans (hb11.mono HB10.out.size))
      have hna11 := (hb11.block qa (by omega)).trans HNA10.out
      have hnb11 := (hb11.block qb (by omega)).trans HNB10.out
      have HS3' := Lib.hid (HS3.out.below hb11 (Nat.le_refl _))
      have HS4 := Lib.hid hs4
      have hz11 := hb11.size
      have HSM := Lib.hid (fun wz (hb : Below w11.heap.size w11 wz) => same_any a3 a4 lm.1.length k3 lm.1.length k4 (lm.1.map strOf) (lm.1.map strOf) wz (HS3'.out.below hb (Nat.le_refl _)) (HS4.out.below hb (Nat.le_refl _)))
      have hsame : decide (lm.1.map strOf = lm.1.map strOf) = true := by simp
      rw [hsame] at HSM
      obtain ⟨aZ, cZ, z0, -⟩ := HRN.out w11 HB11.out
      have hr11 : r < w11.heap.size := by have := HB11.out.size; omega
      obtain ⟨tl, htl⟩ : ∃ tl, tl = T2.length := ⟨_, rfl⟩
      rw [← htl] at H7 z0
      have HTL := Lib.hid htl
      have HKS : Hid (∀ wz, Below w11.heap.size w11 wz → ((wz.cell? ⟨qa, 0, none⟩ = some (.int .i64 v0) ∧ wz.cell? ⟨qa, 1, none⟩ = some (.int .i64 v1) ∧ wz.cell? ⟨qa, 2, none⟩ = some (.int .i64 v2) ∧ wz.cell? ⟨qa, 3, none⟩ = some (.int .i64 v3) ∧ wz.cell? ⟨qa, 4, none⟩ = some (.int .u64 v4) ∧ wz.cell? ⟨qa, 5, none⟩ = some (.bool v5)) ∧ (wz.cell? ⟨qb, 0, none⟩ = some (.int .i64 v0) ∧ wz.cell? ⟨qb, 1, none⟩ = some (.int .i64 v1) ∧ wz.cell? ⟨qb, 2, none⟩ = some (.int .i64 v2) ∧ wz.cell? ⟨qb, 3, none⟩ = some (.int .i64 v3) ∧ wz.cell? ⟨qb, 4, none⟩ = some (.int .u64 v4) ∧ wz.cell? ⟨qb, 5, none⟩ = some (.bool v5)) ∧ wz.cell? ⟨r, 0, none⟩ = some (.slice aZ tl cZ))) := fun wz hb => by
        have g1 := (hb.block qa (by omega)).trans hna11
        have g2 := (hb.block qb (by omega)).trans hnb11
        refine ⟨⟨?_, ?_, ?_, ?_, ?_, ?_⟩, ⟨?_, ?_, ?_, ?_, ?_, ?_⟩, (hb.cell (p := ⟨r, 0, none⟩) hr11).trans z0⟩ <;> simp [World.cell?, g1, g2]
      clear hs4 hb11 hna11 hnb11 hsame htl
      generalize lm.1.length = ll at *
      obtain ⟨lk1, lk2⟩ := lk
      obtain ⟨lm1, lm2⟩ := lm
      go_wp2_with fail
      refine wp_region_noPanic ?_
      refine wp_region_held_drew (S := (fun wz => (wz.cell? ⟨qa, 0, none⟩ = some (.int .i64 v0) ∧ wz.cell? ⟨qa, 1, none⟩ = some (.int .i64 v1) ∧ wz.cell? ⟨qa, 2, none⟩ = some (.int .i64 v2) ∧ wz.cell? ⟨qa, 3, none⟩ = some (.int .i64 v3) ∧ wz.cell? ⟨qa, 4, none⟩ = some (.int .u64 v4) ∧ wz.cell? ⟨qa, 5, none⟩ = some (.bool v5)) ∧ (wz.cell? ⟨qb, 0, none⟩ = some (.int .i64 v0) ∧ wz.cell? ⟨qb, 1, none⟩ = some (.int .i64 v1) ∧ wz.cell? ⟨qb, 2, none⟩ = some (.int .i64 v2) ∧ wz.cell? ⟨qb, 3, none⟩ = some (.int .i64 v3) ∧ wz.cell? ⟨qb, 4, none⟩ = some (.int .u64 v4) ∧ wz.cell? ⟨qb, 5, none⟩ = some (.bool v5)) ∧ wz.cell? ⟨r, 0, none⟩ = some (.slice aZ tl cZ))) (by kernel_rfl) ?_ (fun hS => ?_)
      · exact HKS.out _ (Below.refl _ _).drew
      refine wpAnyH_take (i := 0) (oi := ?oi55) (v := ?v55) ?hi55 (by kernel_rfl) (by kernel_rfl) (by kernel_rfl) ?hq55 (Or.inl ⟨?hw55, ?hy55⟩) hS ?rest55
      case hi55 => simp only [List.getElem?_toArray, List.getElem?_cons_succ, List.getElem?_cons_zero]; rfl
      case hq55 => exact fun _ _ _ h => h
      case hw55 => rfl
      case hy55 => intro w hSw; (try dsimp only at hSw); go_simp; (try with_reducible rfl)
      try simp only [Act.put, List.setIfInBounds_toArray, List.set_cons_zero, List.set_cons_succ]
      refine wpAnyH_take (i := 1) (oi := ?oi56) (v := ?v56) ?hi56 (by kernel_rfl) (by kernel_rfl) (by kernel_rfl) ?hq56 (Or.inl ⟨?hw56, ?hy56⟩) hS ?rest56
      case hi56 => simp only [List.getElem?_toArray, List.getElem?_cons_succ, List.getElem?_cons_zero]; rfl
      case hq56 => exact fun _ _ _ h => h
      case hw56 => rfl
      case hy56 => intro w hSw; (try dsimp only at hSw); go_simp; (try with_reducible rfl)
      try simp only [Act.put, List.setIfInBounds_toArray, List.set_cons_zero, List.set_cons_succ]
      refine wpAnyH_take (i := 2) (oi := ?oi57) (v := ?v57) ?hi57 (by kernel_rfl) (by kernel_rfl) (by kernel_rfl) ?hq57 (Or.inl ⟨?hw57, ?hy57⟩) hS ?rest57
      case hi57 => simp only [List.getElem?_toArray, List.getElem?_cons_succ, List.getElem?_cons_zero]; rfl
      case hq57 => exact fun _ _ _ h => h
      case hw57 => rfl
      case hy57 => intro w hSw; (try dsimp only at hSw); go_simp; (try with_reducible rfl)
      try simp only [Act.put, List.setIfInBounds_toArray, List.set_cons_zero, List.set_cons_succ]
      refine wpAnyH_take (i := 3) (oi := ?oi58) (v := ?v58) ?hi58 (by kernel_rfl) (by kernel_rfl) (by kernel_rfl) ?hq58 (Or.inl ⟨?hw58, ?hy58⟩) hS ?rest58
      case hi58 => simp only [List.getElem?_toArray, List.getElem?_cons_succ, List.getElem?_cons_zero]; rfl
      case hq58 => exact fun _ _ _ h => h
      case hw58 => rfl
      case hy58 => intro w hSw; (try dsimp only at hSw); go_simp; (try with_reducible rfl)
      try simp only [Act.put, List.setIfInBounds_toArray, List.set_cons_zero, List.set_cons_succ]
      refine wpAnyH_take (i := 4) (oi := ?oi59) (v := ?v59) ?hi59 (by kernel_rfl) (by kernel_rfl) (by kernel_rfl) ?hq59 (Or.inl ⟨?hw59, ?hy59⟩) hS ?rest59
      case hi59 => simp only [List.getElem?_toArray, List.getElem?_cons_succ, List.getElem?_cons_zero]; rfl
      case hq59 => exact fun _ _ _ h => h
      case hw59 => rfl
      case hy59 => intro w hSw; (try dsimp only at hSw); go_simp; (try with_reducible rfl)
      try simp only [Act.put, List.setIfInBounds_toArray, List.set_cons_zero, List.set_cons_succ]
      refine wpAnyH_take (i := 5) (oi := ?oi60) (v := ?v60) ?hi60 (by kernel_rfl) (by kernel_rfl) (by kernel_rfl) ?hq60 (Or.inl ⟨?hw60, ?hy60⟩) hS ?rest60
      case hi60 => simp only [List.getElem?_toArray, List.getElem?_cons_succ, List.getElem?_cons_zero]; rfl
      case hq60 => exact fun _ _ _ h => h
      case hw60 => rfl
      case hy60 => intro w hSw; (try dsimp only at hSw); go_simp; (try with_reducible rfl)
      try simp only [Act.put, List.setIfInBounds_toArray, List.set_cons_zero, List.set_cons_succ]
      refine wpAnyH_take (i := 6) (oi := ?oi61) (v := ?v61) ?hi61 (by kernel_rfl) (by kernel_rfl) (by kernel_rfl) ?hq61 (Or.inl ⟨?hw61, ?hy61⟩) hS ?rest61
      case hi61 => simp only [List.getElem?_toArray, List.getElem?_cons_succ, List.getElem?_cons_zero]; rfl
      case hq61 => exact fun _ _ _ h => h
      case hw61 => rfl
      case hy61 => intro w hSw; (try dsimp only at hSw); go_simp; (try with_reducible rfl)
      try simp only [Act.put, List.setIfInBounds_toArray, List.set_cons_zero, List.set_cons_succ]
      refine wpAnyH_take (i := 7) (oi := ?oi62) (v := ?v62) ?hi62 (by kernel_rfl) (by kernel_rfl) (by kernel_rfl) ?hq62 (Or.inl ⟨?hw62, ?hy62⟩) hS ?rest62
      case hi62 => simp only [List.getElem?_toArray, List.getElem?_cons_succ, List.getElem?_cons_zero]; rfl
      case hq62 => exact fun _ _ _ h => h
      case hw62 => rfl
      case hy62 => intro w hSw; (try dsimp only at hSw); go_simp; (try with_reducible rfl)
      try simp only [Act.put, List.setIfInBounds_toArray, List.set_cons_zero, List.set_cons_succ]
      refine wpAnyH_take (i := 8) (oi := ?oi63) (v := ?v63) ?hi63 (by kernel_rfl) (by kernel_rfl) (by kernel_rfl) ?hq63 (Or.inl ⟨?hw63, ?hy63⟩) hS ?rest63
      case hi63 => simp only [List.getElem?_toArray, List.getElem?_cons_succ, List.getElem?_cons_zero]; rfl
      case hq63 => exact fun _ _ _ h => h
      case hw63 => rfl
      case hy63 => intro w hSw; (try dsimp only at hSw); go_simp; (try with_reducible rfl)
      try simp only [Act.put, List.setIfInBounds_toArray, List.set_cons_zero, List.set_cons_succ]
      refine wpAnyH_take (i := 9) (oi := ?oi64) (v := ?v64) ?hi64 (by kernel_rfl) (by kernel_rfl) (by kernel_rfl) ?hq64 (Or.inl ⟨?hw64, ?hy64⟩) hS ?rest64
      case hi64 => simp only [List.getElem?_toArray, List.getElem?_cons_succ, List.getElem?_cons_zero]; rfl
      case hq64 => exact fun _ _ _ h => h
      case hw64 => rfl
      case hy64 => intro w hSw; (try dsimp only at hSw); go_simp; (try with_reducible rfl)
      try simp only [Act.put, List.setIfInBounds_toArray, List.set_cons_zero, List.set_cons_succ]
      refine wpAnyH_take (i := 10) (oi := ?oi65) (v := ?v65) ?hi65 (by kernel_rfl) (by kernel_rfl) (by kernel_rfl) ?hq65 (Or.inl ⟨?hw65, ?hy65⟩) hS ?rest65
      case hi65 => simp only [List.getElem?_toArray, List.getElem?_cons_succ, List.getElem?_cons_zero]; rfl
      case hq65 => exact fun _ _ _ h => h
      case hw65 => rfl
      case hy65 => intro w hSw; (try dsimp only at hSw); go_simp; (try with_reducible rfl)
      try simp only [Act.put, List.setIfInBounds_toArray, List.set_cons_zero, List.set_cons_succ]
      refine wpAnyH_take (i := 11) (oi := ?oi66) (v := ?v66) ?hi66 (by kernel_rfl) (by kernel_rfl) (by kernel_rfl) ?hq66 (Or.inl ⟨?hw66, ?hy66⟩) hS ?rest66
      case hi66 => simp only [List.getElem?_toArray, List.getElem?_cons_succ, List.getElem?_cons_zero]; rfl
      case hq66 => exact fun _ _ _ h => h
      case hw66 => rfl
      case hy66 => intro w hSw; (try dsimp only at hSw); go_simp; (try with_reducible rfl)
      try simp only [Act.put, List.setIfInBounds_toArray, List.set_cons_zero, List.set_cons_succ]
      refine wpAnyH_take (i := 12) (oi := ?oi67) (v := ?v67) ?hi67 (by kernel_rfl) (by kernel_rfl) (by kernel_rfl) ?hq67 (Or.inl ⟨?hw67, ?hy67⟩) hS ?rest67
      case hi67 => simp only [List.getElem?_toArray, List.getElem?_cons_succ, List.getElem?_cons_zero]; rfl
      case hq67 => exact fun _ _ _ h => h
      case hw67 => rfl
      case hy67 => intro w hSw; (try dsimp only at hSw); go_simp; (try with_reducible rfl)
      try simp only [Act.put, List.setIfInBounds_toArray, List.set_cons_zero, List.set_cons_succ]
      refine wpAnyH_take (i := 13) (oi := ?oi68) (v := ?v68) ?hi68 (by kernel_rfl) (by kernel_rfl) (by kernel_rfl) ?hq68 (Or.inl ⟨?hw68, ?hy68⟩) hS ?rest68
      case hi68 => simp only [List.getElem?_toArray, List.getElem?_cons_succ, List.getElem?_cons_zero]; rfl
      case hq68 => exact fun _ _ _ h => h
      case hw68 => rfl
      case hy68 => intro w hSw; (try dsimp only at hSw); go_simp; (try with_reducible rfl)
      try simp only [Act.put, List.setIfInBounds_toArray, List.set_cons_zero, List.set_cons_succ]
      refine wpAnyH_take (i := 14) (oi := ?oi69) (v := ?v69) ?hi69 (by kernel_rfl) (by kernel_rfl) (by kernel_rfl) ?hq69 (Or.inl ⟨?hw69, ?hy69⟩) hS ?rest69
      case hi69 => simp only [List.getElem?_toArray, List.getElem?_cons_succ, List.getElem?_cons_zero]; rfl
      case hq69 => exact fun _ _ _ h => h
      case hw69 => rfl
      case hy69 => intro w hSw; (try dsimp only at hSw); go_simp; (try with_reducible rfl)
      try simp only [Act.put, List.setIfInBounds_toArray, List.set_cons_zero, List.set_cons_succ]
      refine wpAnyH_take (i := 15) (oi := ?oi70) (v := ?v70) ?hi70 (by kernel_rfl) (by kernel_rfl) (by kernel_rfl) ?hq70 (Or.inl ⟨?hw70, ?hy70⟩) hS ?rest70
      case hi70 => simp only [List.getElem?_toArray, List.getElem?_cons_succ, List.getElem?_cons_zero]; rfl
      case hq70 => exact fun _ _ _ h => h
      case hw70 => rfl
      case hy70 => intro w hSw; (try dsimp only at hSw); go_simp; (try with_reducible rfl)
      try simp only [Act.put, List.setIfInBounds_toArray, List.set_cons_zero, List.set_cons_succ]
      refine wpAnyH_take (i := 16) (oi := ?oi71) (v := ?v71) ?hi71 (by kernel_rfl) (by kernel_rfl) (by kernel_rfl) ?hq71 (Or.inl ⟨?hw71, ?hy71⟩) hS ?rest71
      case hi71 => simp only [List.getElem?_toArray, List.getElem?_cons_succ, List.getElem?_cons_zero]; rfl
      case hq71 => exact fun _ _ _ h => h
      case hw71 => rfl
      case hy71 => intro w hSw; (try dsimp only at hSw); go_simp; (try with_reducible rfl)
      try simp only [Act.put, List.setIfInBounds_toArray, List.set_cons_zero, List.set_cons_succ]
      refine wpAnyH_take (i := 17) (oi := ?oi72) (v := ?v72) ?hi72 (by kernel_rfl) (by kernel_rfl) (by kernel_rfl) ?hq72 (Or.inl ⟨?hw72, ?hy72⟩) hS ?rest72
      case hi72 => simp only [List.getElem?_toArray, List.getElem?_cons_succ, List.getElem?_cons_zero]; rfl
      case hq72 => exact fun _ _ _ h => h
      case hw72 => rfl
      case hy72 => intro w hSw; (try dsimp only at hSw); go_simp; (try with_reducible rfl)
      try simp only [Act.put, List.setIfInBounds_toArray, List.set_cons_zero, List.set_cons_succ]
      refine wpAnyH_take (i := 18) (oi := ?oi73) (v := ?v73) ?hi73 (by kernel_rfl) (by kernel_rfl) (by kernel_rfl) ?hq73 (Or.inl ⟨?hw73, ?hy73⟩) hS ?rest73
      case hi73 => simp only [List.getElem?_toArray, List.getElem?_cons_succ, List.getElem?_cons_zero]; rfl
      case hq73 => exact fun _ _ _ h => h
      case hw73 => rfl
      case hy73 => intro w hSw; (try dsimp only at hSw); go_simp; (try with_reducible rfl)
      try simp only [Act.put, List.setIfInBounds_toArray, List.set_cons_zero, List.set_cons_succ]
      refine wpAnyH_take (i := 19) (oi := ?oi74) (v := ?v74) ?hi74 (by kernel_rfl) (by kernel_rfl) (by kernel_rfl) ?hq74 (Or.inl ⟨?hw74, ?hy74⟩) hS ?rest74
      case hi74 => simp only [List.getElem?_toArray, List.getElem?_cons_succ, List.getElem?_cons_zero]; rfl
      case hq74 => exact fun _ _ _ h => h
      case hw74 => rfl
      case hy74 => intro w hSw; (try dsimp only at hSw); go_simp; (try with_reducible rfl)
      try simp only [Act.put, List.setIfInBounds_toArray, List.set_cons_zero, List.set_cons_succ]
      refine wpAnyH_take (i := 20) (oi := ?oi75) (v := ?v75) ?hi75 (by kernel_rfl) (by kernel_rfl) (by kernel_rfl) ?hq75 (Or.inl ⟨?hw75, ?hy75⟩) hS ?rest75
      case hi75 => simp only [List.getElem?_toArray, List.getElem?_cons_succ, List.getElem?_cons_zero]; rfl
      case hq75 => exact fun _ _ _ h => h
      case hw75 => rfl
      case hy75 => intro w hSw; (try dsimp only at hSw); go_simp; (try with_reducible rfl)
      try simp only [Act.put, List.setIfInBounds_toArray, List.set_cons_zero, List.set_cons_succ]
      refine wpAnyH_ready (rs := [21]) (by kernel_rfl) (by simp) ?_
      refine AllReadyH.cons (o := ?o76) ?ho76 (fun K hK => ?_) AllReadyH.nil
      case ho76 => simp only [List.getElem?_toArray, List.getElem?_cons_succ, List.getElem?_cons_zero]; rfl
      go_simp
      (with_reducible refine (HSM.out _ (Below.refl _ _).drew).mono ?_)
      rintro e w12 ⟨rfl, hb12⟩
      have hB12 : Below w11.heap.size w11 w12 := (Below.refl _ _).drew.trans hb12
      go_wp2_with fail
      refine hK.out _ _ (HKS.out _ hB12) (fun hS => ?_)
      clear hK K
      try simp only [Act.put, List.setIfInBounds_toArray, List.set_cons_zero, List.set_cons_succ]
      refine wpAnyH_take (i := 22) (oi := ?oi77) (v := ?v77) ?hi77 (by kernel_rfl) (by kernel_rfl) (by kernel_rfl) ?hq77 (Or.inl ⟨?hw77, ?hy77⟩) hS ?rest77
      case hi77 => simp only [List.getElem?_toArray, List.getElem?_cons_succ, List.getElem?_cons_zero]; rfl
      case hq77 => exact fun _ _ _ h => h
      case hw77 => rfl
      case hy77 => intro w hSw; (try dsimp only at hSw); go_simp; (try with_reducible rfl)
      try simp only [Act.put, List.setIfInBounds_toArray, List.set_cons_zero, List.set_cons_succ]
      refine wpAnyH_take (i := 23) (oi := ?oi78) (v := ?v78) ?hi78 (by kernel_rfl) (by kernel_rfl) (by kernel_rfl) ?hq78 (Or.inl ⟨?hw78, ?hy78⟩) hS ?rest78
      case hi78 => simp only [List.getElem?_toArray, List.getElem?_cons_succ, List.getElem?_cons_zero]; rfl
      case hq78 => exact fun _ _ _ h => h
      case hw78 => rfl
      case hy78 => intro w hSw; (try dsimp only at hSw); go_simp; (try with_reducible rfl)
      try simp only [Act.put, List.setIfInBounds_toArray, List.set_cons_zero, List.set_cons_succ]
      refine wpAnyH_take (i := 24) (oi := ?oi79) (v := ?v79) ?hi79 (by kernel_rfl) (by kernel_rfl) (by kernel_rfl) ?hq79 (Or.inl ⟨?hw79, ?hy79⟩) hS ?rest79
      case hi79 => simp only [List.getElem?_toArray, List.getElem?_cons_succ, List.getElem?_cons_zero]; rfl
      case hq79 => exact fun _ _ _ h => h
      case hw79 => rfl
      case hy79 => intro w hSw; (try dsimp only at hSw); go_simp; (try with_reducible rfl)
      try simp only [Act.put, List.setIfInBounds_toArray, List.set_cons_zero, List.set_cons_succ]
      refine wpAnyH_take (i := 25) (oi := ?oi80) (v := ?v80) ?hi80 (by kernel_rfl) (by kernel_rfl) (by kernel_rfl) ?hq80 (Or.inl ⟨?hw80, ?hy80⟩) hS ?rest80
      case hi80 => simp only [List.getElem?_toArray, List.getElem?_cons_succ, List.getElem?_cons_zero]; rfl
      case hq80 => exact fun _ _ _ h => h
      case hw80 => rfl
      case hy80 => intro w hSw; (try dsimp only at hSw); go_simp; (try with_reducible rfl)
      try simp only [Act.put, List.setIfInBounds_toArray, List.set_cons_zero, List.set_cons_succ]
      refine wpAnyH_take (i := 26) (oi := ?oi81) (v := ?v81) ?hi81 (by kernel_rfl) (by kernel_rfl) (by kernel_rfl) ?hq81 (Or.inl ⟨?hw81, ?hy81⟩) hS ?rest81
      case hi81 => simp only [List.getElem?_toArray, List.getElem?_cons_succ, List.getElem?_cons_zero]; rfl
      case hq81 => exact fun _ _ _ h => h
      case hw81 => rfl
      case hy81 => intro w hSw; (try dsimp only at hSw); go_simp; (try with_reducible rfl)
      try simp only [Act.put, List.setIfInBounds_toArray, List.set_cons_zero, List.set_cons_succ]
      refine wpAnyH_take (i := 27) (oi := ?oi82) (v := ?v82) ?hi82 (by kernel_rfl) (by kernel_rfl) (by kernel_rfl) ?hq82 (Or.inl ⟨?hw82, ?hy82⟩) hS ?rest82
      case hi82 => simp only [List.getElem?_toArray, List.getElem?_cons_succ, List.getElem?_cons_zero]; rfl
      case hq82 => exact fun _ _ _ h => h
      case hw82 => rfl
      case hy82 => intro w hSw; (try dsimp only at hSw); go_simp; (try with_reducible rfl)
      try simp only [Act.put, List.setIfInBounds_toArray, List.set_cons_zero, List.set_cons_succ]
      refine wpAnyH_take (i := 28) (oi := ?oi83) (v := ?v83) ?hi83 (by kernel_rfl) (by kernel_rfl) (by kernel_rfl) ?hq83 (Or.inl ⟨?hw83, ?hy83⟩) hS ?rest83
      case hi83 => simp only [List.getElem?_toArray, List.getElem?_cons_succ, List.getElem?_cons_zero]; rfl
      case hq83 => exact fun _ _ _ h => h
      case hw83 => rfl
      case hy83 => intro w hSw; (try dsimp only at hSw); go_simp; (try with_reducible rfl)
      try simp only [Act.put, List.setIfInBounds_toArray, List.set_cons_zero, List.set_cons_succ]
      refine wpAnyH_take (i := 29) (oi := ?oi84) (v := ?v84) ?hi84 (by kernel_rfl) (by kernel_rfl) (by kernel_rfl) ?hq84 (Or.inl ⟨?hw84, ?hy84⟩) hS ?rest84
      case hi84 => simp only [List.getElem?_toArray, List.getElem?_cons_succ, List.getElem?_cons_zero]; rfl
      case hq84 => exact fun _ _ _ h => h
      case hw84 => rfl
      case hy84 => intro w hSw; (try dsimp only at hSw); go_simp; (try with_reducible rfl)
      try simp only [Act.put, List.setIfInBounds_toArray, List.set_cons_zero, List.set_cons_succ]
      refine wpAnyH_take (i := 31) (oi := ?oi85) (v := ?v85) ?hi85 (by kernel_rfl) (by kernel_rfl) (by kernel_rfl) ?hq85 (Or.inl ⟨?hw85, ?hy85⟩) hS ?rest85
      case hi85 => simp only [List.getElem?_toArray, List.getElem?_cons_succ, List.getElem?_cons_zero]; rfl
      case hq85 => exact fun _ _ _ h => h
      case hw85 => rfl
      case hy85 => intro w hSw; (try dsimp only at hSw); go_simp; (try with_reducible rfl)
      try simp only [Act.put, List.setIfInBounds_toArray, List.set_cons_zero, List.set_cons_succ]
      refine wpAnyH_take (i := 32) (oi := ?oi86) (v := ?v86) ?hi86 (by kernel_rfl) (by kernel_rfl) (by kernel_rfl) ?hq86 (Or.inl ⟨?hw86, ?hy86⟩) hS ?rest86
      case hi86 => simp only [List.getElem?_toArray, List.getElem?_cons_succ, List.getElem?_cons_zero]; rfl
      case hq86 => exact fun _ _ _ h => h
      case hw86 => rfl
      case hy86 => intro w hSw; (try dsimp only at hSw); go_simp; (try with_reducible rfl)
      try simp only [Act.put, List.setIfInBounds_toArray, List.set_cons_zero, List.set_cons_succ]
      refine wpAnyH_take (i := 33) (oi := ?oi87) (v := ?v87) ?hi87 (by kernel_rfl) (by kernel_rfl) (by kernel_rfl) ?hq87 (Or.inl ⟨?hw87, ?hy87⟩) hS ?rest87
      case hi87 => simp only [List.getElem?_toArray, List.getElem?_cons_succ, List.getElem?_cons_zero]; rfl
      case hq87 => exact fun _ _ _ h => h
      case hw87 => rfl
      case hy87 => intro w hSw; (try dsimp only at hSw); go_simp; (try with_reducible rfl)
      try simp only [Act.put, List.setIfInBounds_toArray, List.set_cons_zero, List.set_cons_succ]
      refine wpAnyH_take (i := 34) (oi := ?oi88) (v := ?v88) ?hi88 (by kernel_rfl) (by kernel_rfl) (by kernel_rfl) ?hq88 (Or.inl ⟨?hw88, ?hy88⟩) hS ?rest88
      case hi88 => simp only [List.getElem?_toArray, List.getElem?_cons_succ, List.getElem?_cons_zero]; rfl
      case hq88 => exact fun _ _ _ h => h
      case hw88 => rfl
      case hy88 => intro w hSw; (try dsimp only at hSw); go_simp; (try with_reducible rfl)
      try simp only [Act.put, List.setIfInBounds_toArray, List.set_cons_zero, List.set_cons_succ]
      refine wpAnyH_take (i := 35) (oi := ?oi89) (v := ?v89) ?hi89 (by kernel_rfl) (by kernel_rfl) (by kernel_rfl) ?hq89 (Or.inl ⟨?hw89, ?hy89⟩) hS ?rest89
      case hi89 => simp only [List.getElem?_toArray, List.getElem?_cons_succ, List.getElem?_cons_zero]; rfl
      case hq89 => exact fun _ _ _ h => h
      case hw89 => rfl
      case hy89 => intro w hSw; (try dsimp only at hSw); go_simp; (try with_reducible rfl)
      try simp only [Act.put, List.setIfInBounds_toArray, List.set_cons_zero, List.set_cons_succ]
      refine wpAnyH_ready (rs := [30]) (by kernel_rfl) (by simp) ?_
      refine AllReadyH.cons (o := ?o90) ?ho90 (fun K hK => ?_) AllReadyH.nil
      case ho90 => simp only [List.getElem?_toArray, List.getElem?_cons_succ, List.getElem?_cons_zero]; rfl
      go_simp
      (with_reducible refine (H7.out _ (HB11.out.trans (hB12.mono HB11.out.size))).mono ?_)
      rintro e w13 ⟨rfl, rfl⟩
      go_wp2_with fail
      refine hK.out _ _ (HKS.out _ hB12) (fun hS => ?_)
      clear hK K
      try simp only [Act.put, List.setIfInBounds_toArray, List.set_cons_zero, List.set_cons_succ]
      refine wpAnyH_take (i := 36) (oi := ?oi91) (v := ?v91) ?hi91 (by kernel_rfl) (by kernel_rfl) (by kernel_rfl) ?hq91 (Or.inl ⟨?hw91, ?hy91⟩) hS ?rest91
      case hi91 => simp only [List.getElem?_toArray, List.getElem?_cons_succ, List.getElem?_cons_zero]; rfl
      case hq91 => exact fun _ _ _ h => h
      case hw91 => rfl
      case hy91 => intro w hSw; (try dsimp only at hSw); go_simp; (try with_reducible rfl)
      try simp only [Act.put, List.setIfInBounds_toArray, List.set_cons_zero, List.set_cons_succ]
      refine wpAnyH_take (i := 37) (oi := ?oi92) (v := ?v92) ?hi92 (by kernel_rfl) (by kernel_rfl) (by kernel_rfl) ?hq92 (Or.inl ⟨?hw92, ?hy92⟩) hS ?rest92
      case hi92 => simp only [List.getElem?_toArray, List.getElem?_cons_succ, List.getElem?_cons_zero]; rfl
      case hq92 => exact fun _ _ _ h => h
      case hw92 => rfl
      case hy92 => intro w hSw; (try dsimp only at hSw); go_simp; (try with_reducible rfl)
      try simp only [Act.put, List.setIfInBounds_toArray, List.set_cons_zero, List.set_cons_succ]
      refine wpAnyH_take (i := 38) (oi := ?oi93) (v := ?v93) ?hi93 (by kernel_rfl) (by kernel_rfl) (by kernel_rfl) ?hq93 (Or.inl ⟨?hw93, ?hy93⟩) hS ?rest93
      case hi93 => simp only [List.getElem?_toArray, List.getElem?_cons_succ, List.getElem?_cons_zero]; rfl
      case hq93 => exact fun _ _ _ h => h
      case hw93 => rfl
      case hy93 => intro w hSw; (try dsimp only at hSw); go_simp; (try with_reducible rfl)
      try simp only [Act.put, List.setIfInBounds_toArray, List.set_cons_zero, List.set_cons_succ]
      refine wpAnyH_done (by kernel_rfl) ?_ _
      refine NoPanic.normal ?_
      clear hS
      have HB12 := Lib.hid (HB11.out.trans (hB12.mono HB11.out.size))
      clear hB12
      go_wp2_with fail
      go_ret
      have h9 := HB2.out.rest HB12.out
      exact ⟨rfl, T2, h9.1, fun b hb => (h9.2.1 b hb).trans (HKP2.out b hb), Nat.le_trans hsz0 h9.2.2.1, h9.2.2.2⟩
end Go.Proofs.YtbapdoicejakhaaGreat
