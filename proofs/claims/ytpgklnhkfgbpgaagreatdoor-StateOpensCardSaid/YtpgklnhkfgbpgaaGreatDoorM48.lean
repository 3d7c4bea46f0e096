/- package state: Open; Turns. package state: files that are open for writing, plainly. Arguments opened: a slice of integers of one kind. StateOpens: the walk. -/
import Derived.Test.YtpgklnhkfgbpgaaGreatDoorM40
import Derived.Test.YtpgklnhkfgbpgaaGreatDoorM33
import Derived.Test.YtpgklnhkfgbpgaaGreatDoorM44
import Derived.Test.YtpgklnhkfgbpgaaGreatDoorM01
import Derived.Test.YtpgklnhkfgbpgaaGreatDoorM41
import Derived.Test.YtpgklnhkfgbpgaaGreatDoorM45
namespace Go.Proofs.YtpgklnhkfgbpgaaGreatDoor
open Go.ChangeShapes Go.WideShapes Go.ChangeAt Go.RowKit
set_option linter.unusedVariables false
set_option linter.unusedSimpArgs false

/-- The first so many descriptors that are not free. -/
def openTo (M : StM) (k : Nat) : List Int := ((List.range k).filter fun n => (M.fds n).isSome).map fun n : Nat => (n : Int)
def openL (M : StM) : List Int := openTo M 8
theorem openTo_some {M : StM} {k : Nat} {f : FdM} (h : M.fds k = some f) : openTo M (k + 1) = openTo M k ++ [(k : Int)] := by
  unfold openTo
  rw [List.range_succ, List.filter_append, List.map_append, List.filter_cons_of_pos (by rw [h]; rfl)]
  rfl
theorem openTo_none {M : StM} {k : Nat} (h : M.fds k = none) : openTo M (k + 1) = openTo M k := by
  unfold openTo
  rw [List.range_succ, List.filter_append, List.map_append, List.filter_cons_of_neg (by rw [h]; simp)]
  simp
theorem openTo_len (M : StM) (k : Nat) : (openTo M k).length ≤ k := by
  unfold openTo
  rw [List.length_map]
  have := List.length_filter_le (fun n => (M.fds n).isSome) (List.range k)
  rw [List.length_range] at this
  exact this
section
variable {W w : World} {o : Mark} {i j k p : Nat} {M : StM}
set_option maxRecDepth 100000 in
set_option maxHeartbeats 4000000 in
theorem sopens_any (h : StateO o i j k w p M) : Calls Tryz.prog 20 #[ptr p] w (NewInts w (openL M)) := by
  obtain ⟨ti, hi, hz0, hz1, hz2⟩ := info_parts infoInt
  obtain ⟨t, s, v, h1, h2, h3, h4⟩ := h.at_
  obtain ⟨c0, c1, c2, c3, c4⟩ := st_cells h1
  have e3 := c3 0 (by omega)
  have e4 := c3 1 (by omega)
  have e5 := c3 2 (by omega)
  have e6 := c3 3 (by omega)
  have e7 := c3 4 (by omega)
  have e8 := c3 5 (by omega)
  have e9 := c3 6 (by omega)
  have e10 := c3 7 (by omega)
  have H4 := Lib.hid h4
  clear h h1 h2 h3 h4 c3 c4
  go_enter Tryz.func20, Tryz.ntmps20
  go_wp2_with fail
  go_loopw [3, 10] (fun u iv wr => ∃ n : Nat, n ≤ 8 ∧ iv = .int .i64 n ∧ wr.ownsRow w.heap.size 3 1 u (openTo M n).length ((openTo M n).map (Value.int .i64)) ∧ Below w.heap.size w wr) (fun _ iv _ => 8 - (intOf iv).toNat)
  case atStart => exact ⟨0, by omega, rfl, ⟨rfl, .inl ⟨rfl, rfl⟩⟩, Below.refl _ _⟩
  case round =>
    obtain ⟨n, hn, rfl, hO, hb⟩ := hrel
    have hbs := hb.size
    have HO := Lib.hid hO
    have HB := Lib.hid hb
    obtain ⟨a5, c5, rfl, hac5⟩ := own_form hO
    clear hO hb
    by_cases hn8 : n < 8
    · have hd : decide ((n : Int) < 8) = true := by simp; omega
      have hix := index_fd v n hn8 wr
      have hf := H4.out n hn8
      have i0 : (0 : Int) ≤ n := by omega
      cases hfd : M.fds n with
      | none =>
        rw [hfd] at hf
        have hv : v n = .pointer none := hf
        rw [hv] at hix
        have HE := Lib.hid (openTo_none hfd)
        clear hf hv hfd
        go_wp2_with fail
        go_roundw
        case rel => exact ⟨n + 1, by omega, by go_num, by rw [HE.out]; exact HO.out, HB.out⟩
        case measure => simp [intOf]; omega
      | some f =>
        rw [hfd] at hf
        obtain ⟨q, fa, fc, hv, _⟩ := hf
        rw [hv] at hix
        have HE := Lib.hid (openTo_some hfd)
        have hb5 : Below wr.heap.size wr (wr.alloc (.cells #[.int .i64 n] 3)) := wall wr _
        have HO5 := Lib.hid (own_below HO.out hb5)
        have HB5 := Lib.hid hb5
        have HROW := Lib.hid (one_row (w := wr) (.int .i64 n) 3)
        have hz5 := hb5.size
        obtain ⟨L, hL⟩ : ∃ L, L = (openTo M n).length := ⟨_, rfl⟩
        have hLn : L ≤ 8 := by rw [hL]; have := openTo_len M n; omega
        rw [← hL] at HO5 hac5
        have HLL := Lib.hid hL
        rw [← hL]
        clear hv hfd hb5 hL
        go_wp2_with (at_builtin; (refine wpList_append_row (by rfl) _ _ 46 (by rfl) w.heap.size 3 ti (.int .i64 0) 8 Tryz.underlying46 hi hz0 hz1 hz2 rfl _ _ _ (by rfl) HO5.out (some ⟨wr.heap.size, 0, none⟩) 1 1 [.int .i64 n] (by rfl) HROW.out (one_ints [(n : Int)]) (by unfold maxLen; omega) (by omega) (Nat.le_trans hbs hz5) ?_); intro A' c' w6 hown6 hgrow6 _ _)
        have HO6 := Lib.hid hown6
        have HG6 := Lib.hid hgrow6
        clear hown6 hgrow6
        go_roundw
        case rel =>
          refine ⟨n + 1, by omega, by go_num, ?_, ?_⟩
          · rw [HE.out, List.map_append, List.length_append, ← HLL.out]
            exact HO6.out
          · exact (HB.out.trans (HB5.out.mono hbs)).grown HG6.out (by omega) (own_block_ge HO5.out)
        case measure => simp [intOf]; omega
    · have hd : decide ((n : Int) < 8) = false := by simp; omega
      obtain rfl : n = 8 := by omega
      go_wp2_with fail
      go_ret
      exact ⟨a5, c5, rfl, hac5, (RowAt.of_own HO.out).2.mono (fun b hb => ⟨by omega, hb.2⟩), HB.out⟩
end
end Go.Proofs.YtpgklnhkfgbpgaaGreatDoor
namespace Go.Proofs.YtpgklnhkfgbpgaaGreatDoor
open Go.ChangeShapes Go.WideShapes Go.ChangeAt Go.RowKit
set_option linter.unusedVariables false
set_option linter.unusedSimpArgs false

/-- The descriptors in ex are those of files of their own; the root's names are among us; so many nodes. -/
structure OpS (us : Nm → Prop) (n : Nat) (ex : Nat → Prop) (M : StM) : Prop where
  root : ∃ x, aget (0 : Int) M.t = some x ∧ x.kind = 2 ∧ ∀ nm, aget nm x.names ≠ none → us nm
  len : M.t.length = n
  fd : ∀ k, k < 8 → ex k → ∃ id x, M.fds k = some ⟨true, id, []⟩ ∧ id ≠ 0 ∧ aget id M.t = some x ∧ x.kind = 1 ∧ x.closed = false ∧ x.links = 1
  free : ∀ k, k < 8 → ¬ ex k → M.fds k = none
  inj : ∀ k k' f f', k < 8 → k' < 8 → ex k → ex k' → k ≠ k' → M.fds k = some f → M.fds k' = some f' → f.id ≠ f'.id
theorem StW.okM {W : World} {o : Mark} {i : Nat} {w : World} {p : Nat} {c : Int} {M : StM} (h : StW W o i w p c M) : OkM M.t := h.ok.t.1
theorem OpS.new : OpS (fun _ => False) 1 (fun _ => False) newSt :=
  ⟨⟨freshM 2, rfl, rfl, fun nm h => h rfl⟩, rfl, fun k _ h => h.elim, fun k _ _ => rfl, fun k k' f f' _ _ h => h.elim⟩
theorem OpS.to {us us' : Nm → Prop} {n : Nat} {ex ex' : Nat → Prop} {M : StM} (h : OpS us n ex M) (hu : ∀ nm, us nm → us' nm) (he : ∀ k, k < 8 → (ex k ↔ ex' k)) : OpS us' n ex' M :=
  ⟨by obtain ⟨x, h1, h2, h3⟩ := h.root; exact ⟨x, h1, h2, fun nm hn => hu nm (h3 nm hn)⟩, h.len, fun k hk e => h.fd k hk ((he k hk).2 e), fun k hk e => h.free k hk (fun e' => e ((he k hk).1 e')), fun k k' f f' hk hk' e e' => h.inj k k' f f' hk hk' ((he k hk).2 e) ((he k' hk').2 e')⟩
theorem OpS.freeI_eq {us : Nm → Prop} {n : Nat} {ex : Nat → Prop} {M : StM} (h : OpS us n ex M) (k : Nat) (hk : k < 8) (h0 : ¬ ex k) (h1 : ∀ m, m < k → ex m) : freeI M = k :=
  (FreeR.eq (.inr ⟨k, hk, rfl, h.free k hk h0, fun m hm e => by
    obtain ⟨id, x, hf, _⟩ := h.fd m (by omega) (h1 m hm)
    rw [e] at hf
    cases hf⟩)).symm
theorem OpS.freeI_none {us : Nm → Prop} {n : Nat} {ex : Nat → Prop} {M : StM} (h : OpS us n ex M) (h1 : ∀ m, m < 8 → ex m) : freeI M = -1 :=
  (FreeR.eq (.inl ⟨rfl, fun m hm e => by
    obtain ⟨id, x, hf, _⟩ := h.fd m hm (h1 m hm)
    rw [e] at hf
    cases hf⟩)).symm
theorem OpS.open_len {us : Nm → Prop} {n : Nat} {ex : Nat → Prop} {M : StM} (h : OpS us n ex M) (h1 : ∀ m, m < 8 → ex m) : (openL M).length = 8 := by
  unfold openL openTo
  rw [List.length_map, List.filter_eq_self.2 (fun m hm => ?_)]
  · rfl
  · obtain ⟨id, x, hf, _⟩ := h.fd m (List.mem_range.1 hm) (h1 m (List.mem_range.1 hm))
    rw [hf]
    rfl
theorem make_top {us : Nm → Prop} {n : Nat} {ex : Nat → Prop} {M : StM} (h : OpS us n ex M) (hs : OkM M.t) (hn : n < 64) (nm : Nm) (hu : ¬ us nm) (hf : fineL [nm] = 0) :
    ∃ (f : Nat) (x : ItM), 1 ≤ f ∧ aget (f : Int) M.t = none ∧ aget (0 : Int) M.t = some x ∧ x.kind = 2 ∧ (∀ nm, aget nm x.names ≠ none → us nm) ∧
      makeM M.t [nm] 1 = (((f : Int), 0), amod (0 : Int) (fun x => { x with names := aput bytesBefore nm (f : Int) x.names }) (aput ilt (f : Int) (freshM 1) M.t)) := by
  obtain ⟨x, h1, h2, h3⟩ := h.root
  obtain ⟨f, e1, e2, -, e4, -⟩ := hs.free
  refine ⟨f, x, e2, e4, h1, h2, h3, ?_⟩
  have hp : placeM M.t [nm] = (0, nm, 0) := by
    unfold placeM
    rw [if_neg (by simp)]
    show (if (lookM M.t 0 []).2 ≠ 0 then _ else if kindM M.t (lookM M.t 0 []).1 = 2 then ((lookM M.t 0 []).1, nm, 0) else _) = _
    show (if (0 : Int) ≠ 0 then _ else if kindM M.t 0 = 2 then ((0 : Int), nm, (0 : Int)) else _) = _
    have hk : kindM M.t 0 = 2 := by unfold kindM; rw [h1]; exact h2
    rw [if_neg (by simp), if_pos hk]
  have hnn : namesM M.t 0 = x.names := by unfold namesM; rw [h1]
  have hno : aget nm x.names = none := by
    cases hg : aget nm x.names with
    | none => rfl
    | some v => exact absurd (h3 nm (by rw [hg]; simp)) hu
  have hE : makeE M.t [nm] 1 = 0 := by
    unfold makeE
    rw [if_neg (by simp [hf]), if_neg (by simp), hp]
    dsimp only
    rw [if_neg (by simp), hnn, hno, if_neg (by simp), if_neg (by rw [h.len]; omega)]
  unfold makeM
  rw [if_pos hE]
  unfold makeOk
  rw [hp, e1]
  rfl
def creO (p : List UInt8) : OpM := ⟨1, p, [], 0, 0, 0, 0, 0, []⟩
theorem OpS.create {us : Nm → Prop} {n : Nat} {ex : Nat → Prop} {M : StM} (h : OpS us n ex M) (hs : OkM M.t) (hn : n < 64) (k : Nat) (hk : k < 8) (h0 : ¬ ex k) (h1 : ∀ m, m < k → ex m) (p : List UInt8) (nm : Nm) (hp : pathsO (creO p) = ([[nm]], 0)) (hu : ¬ us nm) (hf : fineL [nm] = 0) :
    ∃ M', sdoM M (creO p) = (⟨0, k, [], [], none⟩, M') ∧ OpS (fun m => us m ∨ m = nm) (n + 1) (fun m => ex m ∨ m = k) M' := by
  obtain ⟨f, x, hf1, hf2, hx1, hx2, hx3, hm⟩ := make_top h hs hn nm hu hf
  have hfi := h.freeI_eq k hk h0 h1
  have hdo : sdoM M (creO p) = screateM M [nm] := by
    unfold sdoM
    rw [hp]
    rfl
  rw [hdo]
  unfold screateM
  rw [hfi, if_neg (by omega), hm]
  dsimp only
  rw [if_neg (by simp)]
  refine ⟨_, rfl, ?_⟩
  have hk2 : ((k : Int)).toNat = k := by omega
  rw [hk2]
  have hag : ∀ i : Int, aget i (amod (0 : Int) (fun x => { x with names := aput bytesBefore nm (f : Int) x.names }) (aput ilt (f : Int) (freshM 1) M.t)) = if i = 0 then some { x with names := aput bytesBefore nm (f : Int) x.names } else if i = f then some (freshM 1) else aget i M.t := by
    intro i
    rw [aget_amod, aget_aput]
    by_cases hi : i = 0
    · subst hi
      rw [if_pos rfl, if_pos rfl, if_neg (by omega), hx1]
      rfl
    · rw [if_neg hi, if_neg hi]
  refine ⟨⟨_, (hag 0).trans (if_pos rfl), hx2, fun m hm' => ?_⟩, ?_, fun m hm8 he => ?_, fun m hm8 he => ?_, fun a b fa fb ha hb ea eb hab hfa hfb => ?_⟩
  · by_cases hmn : m = nm
    · exact .inr hmn
    · refine .inl (hx3 m ?_)
      have hm2 : aget m (aput bytesBefore nm (f : Int) x.names) ≠ none := hm'
      rwa [aget_aput, if_neg hmn] at hm2
  · unfold StM.put
    dsimp only
    unfold amod
    rw [List.length_map, length_aput _ hf2, h.len]
  · show ∃ id x, (if m = k then some ⟨true, (f : Int), []⟩ else M.fds m) = some ⟨true, id, []⟩ ∧ _
    by_cases hmk : m = k
    · rw [if_pos hmk]
      exact ⟨f, freshM 1, rfl, by omega, (hag f).trans (by rw [if_neg (by omega), if_pos rfl]), rfl, rfl, rfl⟩
    · rw [if_neg hmk]
      obtain ⟨id, y, g1, g2, g3, g4⟩ := h.fd m hm8 (he.resolve_right hmk)
      refine ⟨id, y, g1, g2, (hag id).trans ?_, g4⟩
      rw [if_neg g2, if_neg (fun e => by rw [e, hf2] at g3; cases g3), g3]
  · show (if m = k then _ else M.fds m) = none
    rw [if_neg (fun e => he (.inr e))]
    exact h.free m hm8 fun e => he (.inl e)
  · have hfa' : (if a = k then some ⟨true, (f : Int), []⟩ else M.fds a) = some fa := hfa
    have hfb' : (if b = k then some ⟨true, (f : Int), []⟩ else M.fds b) = some fb := hfb
    have hid : ∀ m g, m < 8 → ex m → M.fds m = some g → g.id ≠ f := fun m g hm8 he hg e => by
      obtain ⟨id, y, g1, g2, g3, g4⟩ := h.fd m hm8 he
      rw [g1] at hg
      cases hg
      dsimp only at e
      rw [e, hf2] at g3
      cases g3
    by_cases hak : a = k
    · rw [if_pos hak] at hfa'
      cases hfa'
      rw [if_neg (fun e => hab (hak.trans e.symm))] at hfb'
      exact fun e => hid b fb hb (eb.resolve_right fun e' => hab (hak.trans e'.symm)) hfb' e.symm
    · rw [if_neg hak] at hfa'
      by_cases hbk : b = k
      · rw [if_pos hbk] at hfb'
        cases hfb'
        exact hid a fa ha (ea.resolve_right hak) hfa'
      · rw [if_neg hbk] at hfb'
        exact h.inj a b fa fb ha hb (ea.resolve_right hak) (eb.resolve_right hbk) hab hfa' hfb'
def clF (k u : Int) : OpM := ⟨6, [], [], k, 0, 0, u, 0, []⟩
theorem OpS.close {us : Nm → Prop} {n : Nat} {ex : Nat → Prop} {M : StM} (h : OpS us n ex M) (k : Nat) (hk : k < 8) (he : ex k) (u : Int) (hu : u ≤ 1099511627776) :
    ∃ M', sdoM M (clF k u) = (noM 0, M') ∧ OpS us n (fun m => ex m ∧ m ≠ k) M' := by
  obtain ⟨id, x, g1, g2, g3, g4, g5, g6⟩ := h.fd k hk he
  have hdo : sdoM M (clF k u) = ofEr (scloseM M (clF k u)) := rfl
  have hk2 : ((k : Int)).toNat = k := by omega
  have hg : getFd M (k : Int) true = some ⟨true, id, []⟩ := by
    unfold getFd
    rw [if_pos (by omega), hk2, g1]
    rfl
  have hE : sealE M.t id u = 0 := by
    unfold sealE
    rw [g3]
    dsimp only
    rw [if_neg (by omega), if_neg (by rw [g5]; simp), if_neg (by omega)]
  obtain ⟨y, hy⟩ : ∃ y : ItM, y = { x with closed := true, til := u } := ⟨_, rfl⟩
  have hag : ∀ i : Int, aget i (amod id (fun x => { x with closed := true, til := u }) M.t) = if i = id then some y else aget i M.t := by
    intro i
    rw [aget_amod]
    by_cases hi : i = id
    · rw [if_pos hi, if_pos hi, hi, g3, hy]
      rfl
    · rw [if_neg hi, if_neg hi]
  have hS : sealM M.t id u = (0, amod id (fun x => { x with closed := true, til := u }) M.t) := by
    unfold sealM
    rw [hE, if_pos rfl]
    unfold settleM
    rw [hag id, if_pos rfl]
    dsimp only
    rw [if_neg (by rw [hy]; dsimp only; rw [g6]; simp)]
  rw [hdo]
  unfold scloseM
  show ∃ M', ofEr (match getFd M (k : Int) true with | some f => _ | none => _) = _ ∧ _
  rw [hg]
  dsimp only
  rw [show (clF (k : Int) u).til = u from rfl, hS]
  dsimp only
  rw [if_neg (by simp), show (clF (k : Int) u).fd = (k : Int) from rfl, hk2]
  refine ⟨_, rfl, ?_⟩
  obtain ⟨r, r1, r2, r3⟩ := h.root
  refine ⟨⟨r, (hag 0).trans (by rw [if_neg (fun e => g2 e.symm), r1]), r2, r3⟩, ?_, fun m hm8 e => ?_, fun m hm8 e => ?_, fun a b fa fb ha hb ea eb hab hfa hfb => ?_⟩
  · unfold StM.put
    dsimp only
    unfold amod
    rw [List.length_map, h.len]
  · obtain ⟨i2, z, q1, q2, q3, q4⟩ := h.fd m hm8 e.1
    refine ⟨i2, z, (if_neg e.2 : (if m = k then none else M.fds m) = _).trans q1, q2, (hag i2).trans ?_, q4⟩
    rw [if_neg (fun e' => h.inj m k _ _ hm8 hk e.1 he e.2 q1 g1 e'), q3]
  · show (if m = k then none else M.fds m) = none
    by_cases hmk : m = k
    · rw [if_pos hmk]
    · rw [if_neg hmk]
      exact h.free m hm8 fun e' => e ⟨e', hmk⟩
  · have hfa' : (if a = k then none else M.fds a) = some fa := hfa
    have hfb' : (if b = k then none else M.fds b) = some fb := hfb
    rw [if_neg ea.2] at hfa'
    rw [if_neg eb.2] at hfb'
    exact h.inj a b fa fb ha hb ea.1 eb.1 hab hfa' hfb'
theorem OpS.close_bad {us : Nm → Prop} {n : Nat} {ex : Nat → Prop} {M : StM} (h : OpS us n ex M) (k : Nat) (hk : k < 8) (he : ¬ ex k) (u : Int) : sdoM M (clF k u) = (noM 26, M) := by
  have hk2 : ((k : Int)).toNat = k := by omega
  have hg : ∀ b, getFd M (k : Int) b = none := fun b => by
    unfold getFd
    rw [if_pos (by omega), hk2, h.free k hk he]
  show ofEr (scloseM M (clF k u)) = _
  unfold scloseM
  show ofEr (match getFd M (k : Int) true with | some f => _ | none => (match getFd M (k : Int) false with | none => _ | some _ => _)) = _
  rw [hg, hg]
  rfl
theorem OpS.full {us : Nm → Prop} {n : Nat} {ex : Nat → Prop} {M : StM} (h : OpS us n ex M) (h1 : ∀ m, m < 8 → ex m) (p : List UInt8) (nm : Nm) (hp : pathsO (creO p) = ([[nm]], 0)) : sdoM M (creO p) = (noM 25, M) := by
  have hdo : sdoM M (creO p) = screateM M [nm] := by
    unfold sdoM
    rw [hp]
    rfl
  rw [hdo]
  unfold screateM
  rw [h.freeI_none h1, if_pos (by omega)]
def opnO (p : List UInt8) : OpM := ⟨3, p, [], 0, 0, 0, 0, 0, []⟩
theorem OpS.full_open {us : Nm → Prop} {n : Nat} {ex : Nat → Prop} {M : StM} (h : OpS us n ex M) (h1 : ∀ m, m < 8 → ex m) (p : List UInt8) (nm : Nm) (hp : pathsO (opnO p) = ([[nm]], 0)) : sdoM M (opnO p) = (noM 25, M) := by
  have hdo : sdoM M (opnO p) = sopenM M [nm] 0 := by
    unfold sdoM
    rw [hp]
    rfl
  rw [hdo]
  unfold sopenM
  rw [show treeAtM M 0 = some M.t from rfl]
  dsimp only
  rw [h.freeI_none h1, if_pos (by omega)]
end Go.Proofs.YtpgklnhkfgbpgaaGreatDoor
namespace Go.Proofs.YtpgklnhkfgbpgaaGreatDoor
open Go.ChangeShapes Go.WideShapes Go.ChangeAt Go.RowKit

/-- The slice's elements are these integers; each of its cells lies below block B. -/
structure IntsAt (B : Nat) (w : World) (k : IntKind) (a : Option Addr) (len : Nat) (zs : List Int) : Prop where
  length : zs.length = len
  small : len ≤ maxLen
  wf : ∀ z ∈ zs, (Lit.int k z).wf = true
  at_ : 0 < len → ∃ b off, a = some ⟨b, off, none⟩ ∧ b < B ∧ ∀ i, i < len → w.cell? ⟨b, off + i, none⟩ = some (.int k (zs.getD i 0))

theorem open_intsAt {H : Type} {enc : TypeId × Value → H} {P : Program} {W : World} {base t e : Nat} {k : IntKind} {v : Value} {d : DataW H} {p : List MemPlace}
    (ht : P.underlying t = some (.slice e)) (he : P.underlying e = some (.int k)) (hc : P.cellsOf e = 1)
    (o : Value.okWide P W .any base t v) (h : DataW.Trod enc P W 0 (fun _ => true) true t v d p) (l : ∀ x ∈ p, x.block < W.heap.size) :
    ∃ a len cap zs, v = .slice a len cap ∧ IntsAt W.heap.size W k a len zs := by
  obtain ⟨a0, len, cap, rfl⟩ := okWide_slice ht o
  obtain ⟨fuel, hf⟩ := h
  rcases open_ints ht he hc hf with ⟨hcs, hx⟩ | ⟨a, len', cap', zs, hcs, _, hl, hm, hz, hx, hcell, hwz⟩
  · simp [Value.cells] at hcs
    obtain ⟨rfl, rfl, rfl⟩ := hcs
    exact ⟨none, 0, 0, [], rfl, rfl, by simp, by simp, fun h => by omega⟩
  · simp [Value.cells] at hcs
    obtain ⟨rfl, rfl, rfl⟩ := hcs
    simp only [Prod.mk.injEq] at hx
    obtain ⟨rfl, rfl⟩ := hx
    simp only [if_true] at hz
    refine ⟨some a, len, cap, zs.take len, rfl, by simp; omega, by omega, fun z hz' => hwz z (List.mem_of_mem_take hz'), fun h0 => ?_⟩
    obtain ⟨b, off, spot⟩ := a
    have hspot : spot = none := by simpa [Addr.add] using World.cell?_spot (hcell 0 (by omega))
    subst hspot
    refine ⟨b, off, rfl, l (.cell b off) (MemPlace.mem_row.2 ⟨0, by omega, by simp⟩), fun i hi => ?_⟩
    have h1 := hcell i (by omega)
    rw [add_plain] at h1
    rw [h1]
    simp [List.getD, hi]

end Go.Proofs.YtpgklnhkfgbpgaaGreatDoor
namespace Go.Proofs.YtpgklnhkfgbpgaaGreatDoor.stateOpens
open Go.ChangeShapes Go.WideShapes Go.ChangeAt Go.RowKit
set_option linter.unusedVariables false
set_option linter.unusedSimpArgs false

theorem ten {P : Nat → Prop} (h0 : P 0) (h1 : P 1) (h2 : P 2) (h3 : P 3) (h4 : P 4) (h5 : P 5) (h6 : P 6) (h7 : P 7) (h8 : P 8) (h9 : P 9) (j : Nat) (hj : j < 10) : P j := by
  rcases (show j = 0 ∨ j = 1 ∨ j = 2 ∨ j = 3 ∨ j = 4 ∨ j = 5 ∨ j = 6 ∨ j = 7 ∨ j = 8 ∨ j = 9 by omega) with rfl | rfl | rfl | rfl | rfl | rfl | rfl | rfl | rfl | rfl <;> assumption
def let_ (j : Nat) : UInt8 := UInt8.ofNat (97 + j)
theorem let_inj (i j : Nat) (hi : i < 10) (hj : j < 10) (h : let_ i = let_ j) : i = j := by
  have := congrArg UInt8.toNat h
  unfold let_ at this
  rw [UInt8.toNat_ofNat', UInt8.toNat_ofNat'] at this
  omega
theorem enc_let (j : Nat) (hj : j < 10) : Utf8.encode (97 + (j : Int)) = strOf [let_ j] :=
  ten (P := fun j => Utf8.encode (97 + (j : Int)) = strOf [let_ j]) (by kernel_rfl) (by kernel_rfl) (by kernel_rfl) (by kernel_rfl) (by kernel_rfl) (by kernel_rfl) (by kernel_rfl) (by kernel_rfl) (by kernel_rfl) (by kernel_rfl) j hj
theorem conv_rune (j : Nat) (hj : j < 10) : ∀ w, (convert 21 9 (.int .i32 (97 + (j : Int)))).run Tryz.prog w = .ok (.string (strOf [let_ j])) w := fun w => by
  rw [← enc_let j hj]
  simp [convert, run_underlying Tryz.underlying21, run_underlying Tryz.underlying9, Conv.intToString]
theorem wrapS (z : Int) (h0 : 0 ≤ z) (h1 : z ≤ 1000000000) : IntKind.i64.wrap z = z := by
  simp [IntKind.wrap, IntKind.bits, IntKind.signed]
  omega
theorem conv_i32 (z : Int) (h0 : 0 ≤ z) (h1 : z ≤ 1000000000) : ∀ w, (convert 3 21 (.int .i64 z)).run Tryz.prog w = .ok (.int .i32 z) w := fun w => by
  have hk : Tryz.prog.intKind 21 = .i32 := by kernel_rfl
  have := run_convert_int (P := Tryz.prog) w 3 21 .i64 z (by rw [Tryz.underlying3]; rfl) (by rw [hk]; exact Tryz.underlying21)
  rw [this, hk]
  have e : IntKind.i32.wrap z = z := by
    simp [IntKind.wrap, IntKind.bits, IntKind.signed]
    omega
  rw [e]
theorem cat_let (a b : UInt8) : (⟨#[47, a]⟩ : ByteArray) ++ strOf [b] = strOf [47, a, b] := rfl
theorem paths_let (a : UInt8) (ha : a = 102 ∨ a = 103) (j : Nat) (hj : j < 10) : pathsO (creO [47, a, let_ j]) = ([[[a, let_ j]]], 0) ∧ fineL [[a, let_ j]] = 0 := by
  rcases ha with rfl | rfl
  · exact ten (P := fun j => pathsO (creO [47, 102, let_ j]) = ([[[102, let_ j]]], 0) ∧ fineL [[102, let_ j]] = 0) ⟨by kernel_rfl, by kernel_rfl⟩ ⟨by kernel_rfl, by kernel_rfl⟩ ⟨by kernel_rfl, by kernel_rfl⟩ ⟨by kernel_rfl, by kernel_rfl⟩ ⟨by kernel_rfl, by kernel_rfl⟩ ⟨by kernel_rfl, by kernel_rfl⟩ ⟨by kernel_rfl, by kernel_rfl⟩ ⟨by kernel_rfl, by kernel_rfl⟩ ⟨by kernel_rfl, by kernel_rfl⟩ ⟨by kernel_rfl, by kernel_rfl⟩ j hj
  · exact ten (P := fun j => pathsO (creO [47, 103, let_ j]) = ([[[103, let_ j]]], 0) ∧ fineL [[103, let_ j]] = 0) ⟨by kernel_rfl, by kernel_rfl⟩ ⟨by kernel_rfl, by kernel_rfl⟩ ⟨by kernel_rfl, by kernel_rfl⟩ ⟨by kernel_rfl, by kernel_rfl⟩ ⟨by kernel_rfl, by kernel_rfl⟩ ⟨by kernel_rfl, by kernel_rfl⟩ ⟨by kernel_rfl, by kernel_rfl⟩ ⟨by kernel_rfl, by kernel_rfl⟩ ⟨by kernel_rfl, by kernel_rfl⟩ ⟨by kernel_rfl, by kernel_rfl⟩ j hj
def usF (k : Nat) (nm : Nm) : Prop := ∃ i, i < k ∧ nm = [102, let_ i]
def usG (k : Nat) (nm : Nm) : Prop := usF 8 nm ∨ ∃ i, i < k ∧ nm = [103, let_ i]
def FRel (W : World) (p : Nat) (iv : Value) (wr : World) : Prop := ∃ (k : Nat) (o : Mark) (M : StM), iv = .int .i64 k ∧ k ≤ 8 ∧ StW W o 1 wr p (1 + k) M ∧ OpS (usF k) (1 + k) (fun m => m < k) M
def GRel (W : World) (p : Nat) (iv : Value) (wr : World) : Prop := ∃ (k : Nat) (o : Mark) (M : StM), iv = .int .i64 k ∧ k ≤ 10 ∧ StW W o 1 wr p (20 + 3 * k) M ∧ OpS (usG k) (9 + k) (fun _ => True) M
theorem creO_ok (a b : UInt8) : OpOk (creO [47, a, b]) := by unfold creO; exact opOk_small (by simp) (by simp) (by simp) (by simp) (by simp) (by simp) (by simp) (by simp) (by simp)
theorem clF_ok (k u : Int) (hk : 0 ≤ k ∧ k ≤ 1000) (hu : 0 ≤ u ∧ u ≤ 1000) : OpOk (clF k u) := by unfold clF; exact opOk_small (by simp) hk (by simp) (by simp) (by simp) (by dsimp only; omega) (by simp) (by simp) (by simp)
theorem creX_ok : OpOk (creO [47, 120]) := by unfold creO; exact opOk_small (by simp) (by simp) (by simp) (by simp) (by simp) (by simp) (by simp) (by simp) (by simp)
theorem opnF_ok : OpOk (opnO [47, 102, 97]) := by unfold opnO; exact opOk_small (by simp) (by simp) (by simp) (by simp) (by simp) (by simp) (by simp) (by simp) (by simp)
set_option maxRecDepth 100000 in
set_option maxHeartbeats 64000000 in
theorem walk {H : Type} {enc : TypeId × Value → H} (W : World) (base : Nat) (hsh : W.ShapedOpen Tryz.prog) (a0 : Int) (w0 : (Lit.int .i64 a0).wf = true) (v1 : Value) (d1 : DataW H) (p1 : List MemPlace) (o1 : Value.okWide Tryz.prog W .any base 46 v1) (h1 : DataW.Trod enc Tryz.prog W 0 (fun _ => true) true 46 v1 d1 p1) (l1 : ∀ x ∈ p1, x.block < W.heap.size) (hsz : (DataW.weightsEach Tryz.prog [3, 46] ([.lit (.int .i64 a0), d1] : List (DataW H))).all (· ≤ reachBytes) = true) :
    Calls Tryz.prog 7 #[.int .i64 a0, v1] W (Fine W) := by
  obtain ⟨m, hm, -⟩ := maxLen_cell hsh
  obtain ⟨a, len, cap, zs, rfl, hI⟩ := open_intsAt Tryz.underlying46 Tryz.underlying3 (by kernel_rfl) o1 h1 l1
  have hlm := hI.small
  unfold maxLen at hlm
  have HM := Lib.hid hm
  have HI := Lib.hid hI
  have HWF := Lib.hid w0
  have hfl := field_er
  have hfn := field_n
  clear hm o1 h1 l1 hsz hsh hI w0
  go_enter Tryz.func7, Tryz.ntmps7
  go_wp2_with fail
  (with_reducible refine (st_new (i := 1) (marks0 W) (by omega)).mono ?_)
  rintro e w1 ⟨ps, o1, rfl, hs1, hS1⟩
  have HS1 := Lib.hid hS1
  clear hs1 hS1
  go_wp2_with fail
  go_loopw [6, 7] (fun iv _ wr => FRel W ps iv wr) (fun iv _ _ => 8 - (intOf iv).toNat)
  case atStart => exact ⟨0, _, newSt, rfl, by omega, HS1.out, OpS.new.to (fun nm h => h.elim) (fun k _ => ⟨fun h => h.elim, fun h => by omega⟩)⟩
  case round =>
    obtain ⟨k, o2, M, rfl, hk, hS, hP⟩ := hrel
    have HS := Lib.hid hS
    have HP := Lib.hid hP
    clear hS hP HS1
    by_cases h8 : k < 8
    · have hd1 : decide ((k : Int) < 8) = true := by simp; omega
      obtain ⟨M', hdo, hP'⟩ := HP.out.create HS.out.okM (by omega) k h8 (by omega) (fun m hm => hm) [47, 102, let_ k] [102, let_ k] (paths_let 102 (.inl rfl) k (by omega)).1 (fun ⟨i, hi, e⟩ => by have := let_inj k i (by omega) (by omega) (by simpa using e); omega) (paths_let 102 (.inl rfl) k (by omega)).2
      have HP' := Lib.hid hP'
      have HDO := Lib.hid hdo
      clear hP' hdo
      have hwr : IntKind.i64.wrap (97 + (k : Int)) = 97 + (k : Int) := wrapS _ (by omega) (by omega)
      have hc1 := conv_i32 (97 + (k : Int)) (by omega) (by omega)
      have hc2 := conv_rune k (by omega)
      have hsz : ¬ 9223372036854775807 < (⟨#[47, 102]⟩ : ByteArray).size + (strOf [let_ k]).size := by rw [strOf_size]; show ¬ 9223372036854775807 < 2 + 1; decide
      have HC21 := Lib.hid (st_doE0 HS.out (by omega) (by omega) (creO [47, 102, let_ k]) (creO_ok _ _) m HM.out (opA 1 (⟨#[47, 102]⟩ ++ strOf [let_ k]) ⟨#[]⟩ 0 0 0 0 0 none 0 0) (by rw [cat_let]; rfl) rfl HDO.out)
      go_wp2_with fail
      (with_reducible refine HC21.out.mono ?_)
      rintro e w21 ⟨o21, ⟨y21, rfl, da21, la21, dc21, lc21, rfl, p1, p2, p3, p4⟩, hs21, hS21⟩
      have HS21 := Lib.hid hS21
      have HR21 := Lib.hid (And.intro p1 (And.intro p2 (And.intro p3 p4)))
      clear hs21 hS21 p1 p2 p3 p4 HC21 HS
      go_wp2_with (refine wpList_store_rep (by rfl) 33 _ _ (by rfl) _ (reC ⟨0, k, [], [], none⟩ da21 la21 dc21 lc21) (by rfl) (by rfl) _ (MapKept.heap_alloc _ _).1 repSize rfl (reC_one _ _ _ _ _) ?_; intro w22 hs22; have HW22 := Lib.hid hs22; clear hs22; obtain ⟨hv22, hb22⟩ := rep_var HS21.out.marks HR21.out.1 HR21.out.2.1 HR21.out.2.2.1 HR21.out.2.2.2 HW22.out; have HV22 := Lib.hid hv22; have HS23 := Lib.hid (HS21.out.grow hb22); clear HS21; clear hv22 hb22 HW22 HR21; have x0 := HV22.out.er; have x1 := HV22.out.n; dsimp only at x0 x1)
      go_roundw
      case rel => exact ⟨k + 1, _, M', by go_num, by omega, HS23.out.mono (by omega), HP'.out.to (fun nm h => h.elim (fun ⟨i, hi, e⟩ => ⟨i, by omega, e⟩) fun e => ⟨k, by omega, e⟩) (fun m _ => by omega)⟩
      case measure => simp [intOf]; omega
    · have hd1 : decide ((k : Int) < 8) = false := by simp; omega
      obtain rfl : k = 8 := by omega
      have HX := Lib.hid (HP.out.full (fun m hm => hm) [47, 120] [120] (by kernel_rfl))
      have HY := Lib.hid (HP.out.full_open (fun m hm => hm) [47, 102, 97] [102, 97] (by kernel_rfl))
      have hol := HP.out.open_len (fun m hm => hm)
      clear hk h8
      have HC41 := Lib.hid (st_doE0 HS.out (by omega) (by omega) (creO [47, 120]) creX_ok m HM.out (opA 1 ⟨#[47, 120]⟩ ⟨#[]⟩ 0 0 0 0 0 none 0 0) rfl rfl HX.out)
      go_wp2_with fail
      (with_reducible refine HC41.out.mono ?_)
      rintro e w41 ⟨o41, ⟨y41, rfl, da41, la41, dc41, lc41, rfl, p1, p2, p3, p4⟩, hs41, hS41⟩
      have HS41 := Lib.hid hS41
      have HR41 := Lib.hid (And.intro p1 (And.intro p2 (And.intro p3 p4)))
      clear hs41 hS41 p1 p2 p3 p4 HC41 HS
      unfold reC
      try unfold noM
      have HC42 := Lib.hid (st_doE0 HS41.out (by omega) (by omega) (opnO [47, 102, 97]) opnF_ok m HM.out (opA 3 ⟨#[47, 102, 97]⟩ ⟨#[]⟩ 0 0 0 0 0 none 0 0) rfl rfl HY.out)
      go_wp2_with fail
      (with_reducible refine HC42.out.mono ?_)
      rintro e w42 ⟨o42, ⟨y42, rfl, da42, la42, dc42, lc42, rfl, p1, p2, p3, p4⟩, hs42, hS42⟩
      have HS42 := Lib.hid hS42
      have HR42 := Lib.hid (And.intro p1 (And.intro p2 (And.intro p3 p4)))
      clear hs42 hS42 p1 p2 p3 p4 HC42 HS41
      unfold reC
      try unfold noM
      go_wp2_with fail
      (with_reducible refine (sopens_any HS42.out.st).mono ?_)
      rintro e w43 ⟨oa, oc, rfl, hoc, hor, hb⟩
      rw [hol]
      have HS44 := Lib.hid (HS42.out.grow hb)
      clear HS42
      clear hoc hor hb
      clear hol
      go_wp2_with fail
      go_loopw [8, 9, 10, 11] (fun iv _ _ _ wr => GRel W ps iv wr) (fun iv _ _ _ _ => 10 - (intOf iv).toNat)
      case atStart => exact ⟨0, _, M, rfl, by omega, HS44.out.mono (by omega), HP.out.to (fun nm h => .inl h) (fun k hk => ⟨fun _ => trivial, fun _ => hk⟩)⟩
      case round =>
        obtain ⟨j, o3, M2, rfl, hj, hS2, hP2⟩ := hrel
        have HS2 := Lib.hid hS2
        have HP2 := Lib.hid hP2
        have hbW := hS2.below
        clear hS2 hP2 HS44 HP HX HY
        have hol := HP2.out.open_len (fun m hm => trivial)
        by_cases hlt : j < len
        · by_cases h10 : j < 10
          · have hd1 : decide ((j : Int) < (len : Int)) = true := by simp; omega
            have hd2 : decide ((j : Int) < 10) = true := by simp; omega
            have i0 : (0 : Int) ≤ (j : Int) := by omega
            have i1 : (j : Int) < (len : Int) := by omega
            obtain ⟨b, off, rfl, hbl, hat⟩ := HI.out.at_ (by omega)
            obtain ⟨z, hz⟩ : ∃ z, z = zs.getD j 0 := ⟨_, rfl⟩
            have hc := hat j hlt
            rw [← hz] at hc
            have hcell : wr.cell? ⟨b, off + j, none⟩ = some (.int .i64 z) := (hbW.cell (p := ⟨b, off + j, none⟩) hbl).trans hc
            have HZW : Hid ((Lit.int .i64 z).wf = true) := by
              have hl := HI.out.length
              rw [hz]
              refine Lib.hid (HI.out.wf _ ?_)
              rw [List.getD_eq_getElem?_getD, List.getElem?_eq_getElem (show j < zs.length by omega)]
              exact List.getElem_mem _
            clear hol hz hat hc
            go_wp2_with fail
            (with_reducible refine (within_any z 0 7 _ HZW.out (by omega) (by omega) (by omega)).mono ?_)
            rintro e _ ⟨rfl, rfl⟩
            obtain ⟨kb1, kb2⟩ := withinI_bd z 0 7 (by omega)
            obtain ⟨k, hk2⟩ : ∃ k : Nat, (k : Int) = withinI z 0 7 := ⟨(withinI z 0 7).toNat, by omega⟩
            rw [← hk2] at kb2 ⊢
            have hk8 : k < 8 := by omega
            clear hk2 kb1 kb2 hcell HZW
            go_wp2_with fail
            (with_reducible refine (within_any a0 0 9 _ HWF.out (by omega) (by omega) (by omega)).mono ?_)
            rintro e _ ⟨rfl, rfl⟩
            obtain ⟨ub1, ub2⟩ := withinI_bd a0 0 9 (by omega)
            obtain ⟨u, hu⟩ : ∃ u, u = withinI a0 0 9 := ⟨_, rfl⟩
            rw [← hu] at ub1 ub2 ⊢
            have hcu := conv_iu u ub1 (by omega)
            obtain ⟨M3, hd3, hP3⟩ := HP2.out.close k hk8 trivial u (by omega)
            have hd4 := hP3.close_bad k hk8 (fun e => e.2 rfl) 0
            have HP3 := Lib.hid hP3
            have HD3 := Lib.hid hd3
            have HD4 := Lib.hid hd4
            clear hP3 hd3 hd4 hu
            have HC61 := Lib.hid (st_doE0 HS2.out (by omega) (by omega) (clF k u) (clF_ok k u (by omega) (by omega)) m HM.out (opA 6 ⟨#[]⟩ ⟨#[]⟩ k 0 0 u 0 none 0 0) rfl rfl HD3.out)
            go_wp2_with fail
            (with_reducible refine HC61.out.mono ?_)
            rintro e w61 ⟨o61, ⟨y61, rfl, da61, la61, dc61, lc61, rfl, p1, p2, p3, p4⟩, hs61, hS61⟩
            have HS61 := Lib.hid hS61
            have HR61 := Lib.hid (And.intro p1 (And.intro p2 (And.intro p3 p4)))
            clear hs61 hS61 p1 p2 p3 p4 HC61 HS2
            go_wp2_with (refine wpList_store_rep (by rfl) 33 _ _ (by rfl) _ (reC (noM 0) da61 la61 dc61 lc61) (by rfl) (by rfl) _ (MapKept.heap_alloc _ _).1 repSize rfl (reC_one _ _ _ _ _) ?_; intro w62 hs62; have HW62 := Lib.hid hs62; clear hs62; obtain ⟨hv62, hb62⟩ := rep_var HS61.out.marks HR61.out.1 HR61.out.2.1 HR61.out.2.2.1 HR61.out.2.2.2 HW62.out; have HV62 := Lib.hid hv62; have HS63 := Lib.hid (HS61.out.grow hb62); clear HS61; clear hv62 hb62 HW62 HR61; have x0 := HV62.out.er; unfold noM at x0; dsimp only at x0)
            have HC64 := Lib.hid (st_doE0 HS63.out (by omega) (by omega) (clF k 0) (clF_ok k 0 (by omega) (by omega)) m HM.out (opA 6 ⟨#[]⟩ ⟨#[]⟩ k 0 0 0 0 none 0 0) rfl rfl HD4.out)
            (with_reducible refine HC64.out.mono ?_)
            rintro e w64 ⟨o64, ⟨y64, rfl, da64, la64, dc64, lc64, rfl, p1, p2, p3, p4⟩, hs64, hS64⟩
            have HS64 := Lib.hid hS64
            have HR64 := Lib.hid (And.intro p1 (And.intro p2 (And.intro p3 p4)))
            have HV65 := Lib.hid (HV62.out.five (by omega) hs64)
            clear HV62
            clear hs64 hS64 p1 p2 p3 p4 HC64 HS63
            unfold reC
            try unfold noM
            clear x0
            obtain ⟨M4, hd5, hP4⟩ := HP3.out.create HS64.out.okM (by omega) k hk8 (fun e => e.2 rfl) (fun m hm => ⟨trivial, by omega⟩) [47, 103, let_ j] [103, let_ j] (paths_let 103 (.inr rfl) j h10).1 (fun h => h.elim (fun ⟨i, hi, e⟩ => by simp at e) (fun ⟨i, hi, e⟩ => by have := let_inj j i h10 (by omega) (by simpa using e); omega)) (paths_let 103 (.inr rfl) j h10).2
            have HP4 := Lib.hid hP4
            have HD5 := Lib.hid hd5
            clear hP4 hd5
            have hwr : IntKind.i64.wrap (97 + (j : Int)) = 97 + (j : Int) := wrapS _ (by omega) (by omega)
            have hc1 := conv_i32 (97 + (j : Int)) (by omega) (by omega)
            have hc2 := conv_rune j (by omega)
            have hsz : ¬ 9223372036854775807 < (⟨#[47, 103]⟩ : ByteArray).size + (strOf [let_ j]).size := by rw [strOf_size]; show ¬ 9223372036854775807 < 2 + 1; decide
            have HC66 := Lib.hid (st_doE0 HS64.out (by omega) (by omega) (creO [47, 103, let_ j]) (creO_ok _ _) m HM.out (opA 1 (⟨#[47, 103]⟩ ++ strOf [let_ j]) ⟨#[]⟩ 0 0 0 0 0 none 0 0) (by rw [cat_let]; rfl) rfl HD5.out)
            go_wp2_with fail
            (with_reducible refine HC66.out.mono ?_)
            rintro e w66 ⟨o66, ⟨y66, rfl, da66, la66, dc66, lc66, rfl, p1, p2, p3, p4⟩, hs66, hS66⟩
            have HS66 := Lib.hid hS66
            have HR66 := Lib.hid (And.intro p1 (And.intro p2 (And.intro p3 p4)))
            have HV67 := Lib.hid (HV65.out.five (by omega) hs66)
            clear HV65
            clear hs66 hS66 p1 p2 p3 p4 HC66 HS64
            unfold reC
            try unfold noM
            go_wp2_with fail
            go_roundw
            case rel => exact ⟨j + 1, _, M4, by go_num, by omega, HS66.out.mono (by omega), HP4.out.to (fun nm h => h.elim (fun h => h.elim .inl fun ⟨i, hi, e⟩ => .inr ⟨i, by omega, e⟩) fun e => .inr ⟨j, by omega, e⟩) (fun m _ => ⟨fun _ => trivial, fun _ => (Decidable.em (m = k)).elim .inr fun h => .inl ⟨trivial, h⟩⟩)⟩
            case measure => simp [intOf]; omega
          · have hd1 : decide ((j : Int) < (len : Int)) = true := by simp; omega
            have hd2 : decide ((j : Int) < 10) = false := by simp; omega
            go_wp2_with fail
            (with_reducible refine (sopens_any HS2.out.st).mono ?_)
            rintro e w7 ⟨oa, oc, rfl, hoc, hor, hb⟩
            rw [hol]
            have hb7 := hbW.trans (hb.mono hbW.size)
            have HB7 := Lib.hid hb7
            have hmr : w7.cell? ⟨0, 0, none⟩ = some (.int .i64 m) := (hb7.cell (p := ⟨0, 0, none⟩) (World.block_lt_of_cell? W _ HM.out)).trans HM.out
            have HK := Lib.hid (known14_any w7 m hmr)
            clear hmr hoc hor hb hb7
            go_wp2_with fail
            (with_reducible refine HK.out.mono ?_)
            rintro e w2 ⟨rfl, hb2⟩
            go_wp2_with fail
            go_ret
            exact ⟨rfl, HB7.out.trans (hb2.mono HB7.out.size)⟩
        · have hd1 : decide ((j : Int) < (len : Int)) = false := by simp; omega
          go_wp2_with fail
          (with_reducible refine (sopens_any HS2.out.st).mono ?_)
          rintro e w7 ⟨oa, oc, rfl, hoc, hor, hb⟩
          rw [hol]
          have hb7 := hbW.trans (hb.mono hbW.size)
          have HB7 := Lib.hid hb7
          have hmr : w7.cell? ⟨0, 0, none⟩ = some (.int .i64 m) := (hb7.cell (p := ⟨0, 0, none⟩) (World.block_lt_of_cell? W _ HM.out)).trans HM.out
          have HK := Lib.hid (known14_any w7 m hmr)
          clear hmr hoc hor hb hb7
          go_wp2_with fail
          (with_reducible refine HK.out.mono ?_)
          rintro e w2 ⟨rfl, hb2⟩
          go_wp2_with fail
          go_ret
          exact ⟨rfl, HB7.out.trans (hb2.mono HB7.out.size)⟩
end Go.Proofs.YtpgklnhkfgbpgaaGreatDoor.stateOpens
