/- package snap: Forget. package state: what Do does, as plain data. All paths of a node, plainly. All paths, whatever the order of a directory's names. slices.Clone of texts: the new row is one's own. What names of package tree gives: paths, behind what was there. path.Join; what Names of package tree orders by. path.Split. -/
import Derived.Test.YtmabllemjkcobaaGreatDoorM33
import Derived.Test.YtmabllemjkcobaaGreatDoorM28
import Derived.Test.YtmabllemjkcobaaGreatDoorM32
import Derived.Test.YtmabllemjkcobaaGreatDoorM29
import Derived.Test.YtmabllemjkcobaaGreatDoorM18
import Derived.Test.YtmabllemjkcobaaGreatDoorM09
import Derived.Test.YtmabllemjkcobaaGreatDoorM11
namespace Go.Proofs.YtmabllemjkcobaaGreatDoor
open Go.ChangeShapes Go.WideShapes Go.ChangeAt Go.RowKit
set_option linter.unusedVariables false
set_option linter.unusedSimpArgs false

def boundM (T : TrM) (now : Int) : Bool := decide (0 < (liveM T now).length)
def cutM (S : SnM) (k : Nat) : SnM := ⟨S.l.take k ++ S.l.drop (k + 1), S.next, S.last⟩
def ForgetR (S : SnM) (id now er : Int) (S' : SnM) : Prop :=
  (er = 29 ∧ S' = S ∧ ∀ x ∈ S.l, x.id ≠ id) ∨ ∃ (k : Nat) (x : OneM), S.l[k]? = some x ∧ x.id = id ∧ (∀ x' ∈ S.l.take k, x'.id ≠ id) ∧ ((boundM x.t now = true ∧ er = 28 ∧ S' = S) ∨ (boundM x.t now = false ∧ er = 0 ∧ S' = cutM S k))
/-- The rows that 'X[:k]' and 'X[k+1:]' read. -/
theorem cut_rowsO {F : Nat → Prop} {w w1 : World} {b off n c k s : Nat} {vs : List Value} (h : RowAt F w (some ⟨b, off, none⟩) (n * s) vs) (hk : k < n) (hb : Below w.heap.size w w1) :
    RowAt F w1 (some ⟨b, off, none⟩) (k * s) (vs.take (k * s)) ∧ RowAt F w1 (if c = k + 1 then some ⟨b, off, none⟩ else some ⟨b, off + (k + 1) * s, none⟩) ((n - (k + 1)) * s) (vs.drop ((k + 1) * s)) ∨ c < n := by
  by_cases hcn : c < n
  · exact .inr hcn
  · left
    have h1 := h.below hb (Nat.le_refl _)
    have h2 := h1.take (k * s)
    have hks : k * s ≤ n * s := Nat.mul_le_mul_right s (by omega)
    rw [Nat.min_eq_right hks] at h2
    have h4 := h1.drop ((k + 1) * s)
    rw [← Nat.sub_mul] at h4
    refine ⟨h2, ?_⟩
    by_cases hce : c = k + 1
    · rw [if_pos hce]
      have hl := h.length
      have hkn : k + 1 = n := by omega
      exact RowAt.zero _ _ _ (by rw [show n - (k + 1) = 0 by omega, Nat.zero_mul]) (by rw [hkn]; exact List.drop_of_length_le (by omega))
    · rw [if_neg hce]; exact h4
theorem OneAt.one {o : Mark} {w : World} {vs : List Value} {x : OneM} (h : OneAt o w vs x) : ∀ u ∈ vs, u.oneCell' = true := by
  obtain ⟨a, c, q, h1, _⟩ := h
  intro u hu
  rw [h1] at hu
  simp only [List.mem_cons, List.not_mem_nil, or_false] at hu
  rcases hu with rfl | rfl | rfl <;> rfl
theorem OnesAt.one {o : Mark} {w : World} : ∀ {vs : List Value} {l : List OneM}, OnesAt o w vs l → ∀ u ∈ vs, u.oneCell' = true
  | _, [], h => by have h1 : _ = [] := h; rw [h1]; intro u hu; cases hu
  | _, x :: r, ⟨v1, v2, h1, h2, h3⟩ => by
    intro u hu
    rw [h1] at hu
    rcases List.mem_append.1 hu with hu | hu
    · exact h2.one u hu
    · exact OnesAt.one h3 u hu
theorem two_cells (w : World) (x y : Value) (t : TypeId) : (w.alloc (.cells #[x, y] t)).drew.cell? ⟨w.heap.size, 0, none⟩ = some x ∧ (w.alloc (.cells #[x, y] t)).drew.cell? ⟨w.heap.size, 1, none⟩ = some y ∧ w.heap.size < (w.alloc (.cells #[x, y] t)).drew.heap.size := by
  have h := (MapKept.heap_alloc w (.cells #[x, y] t)).1
  have h2 : (w.alloc (.cells #[x, y] t)).drew.heap[w.heap.size]? = some (.cells #[x, y] t (0, 0)) := h
  refine ⟨?_, ?_, ?_⟩
  · unfold World.cell?; simp only [h2]; rfl
  · unfold World.cell?; simp only [h2]; rfl
  · exact (Array.getElem?_eq_some_iff.1 h2).1
section
variable {W w : World} {o : Mark} {i s : Nat} {S : SnM}
theorem forget_end {w8 : World} {v v8 : Value} {vals : List Value} {k B lc : Nat} {la : Option Addr} (hM : Marks W o w) (hi : i ≠ 0) (hh : w.heap[s]? = some (.cells #[v, .int .i64 S.next, .slice la S.last.length lc] 101 (0, 0)))
    (hos : o s = i) (hsw : s < w.heap.size) (hO : OnesAt o w vals S.l) (hlc : S.last.length ≤ lc) (hlr : RowAt (fun b => o b = 0 ∧ b < w.heap.size) w la S.last.length (S.last.map bv)) (hb : Below w.heap.size w w8)
    (hown : w8.ownsRow B 105 3 v8 (S.l.take k ++ S.l.drop (k + 1)).length (vals.take (k * 3) ++ vals.drop ((k + 1) * 3))) (hB : w.heap.size ≤ B) :
    ∃ o', Step o (fun j => j = i) w o' (w8.setCell ⟨s, 0, none⟩ v8) ∧ SnapsO o' i (w8.setCell ⟨s, 0, none⟩ v8) s (cutM S k) := by
  obtain ⟨o', hs, h1, h2⟩ := mark_new hM i (fun b => v8.ownBlock = some b) (w' := w8) (fun b hb' => ⟨by have := own_block_ge hown b hb'; omega, own_lt hown b hb'⟩) hb
  have hi0 : ¬ (fun j => j = i) 0 := fun e => hi e.symm
  have hs8 : w8.heap[s]? = _ := (hb.block s hsw).trans hh
  have hz := size_set w8 ⟨s, 0, none⟩ v8
  have hst : Step o (fun j => j = i) w o' (w8.setCell ⟨s, 0, none⟩ v8) := by
    refine hs.trans ⟨fun _ _ => rfl, fun b hb' hn => ?_, (Keeps.set_ w8 ⟨s, 0, none⟩ v8).mono fun x _ hx => by
      have hx : x = s := hx
      rw [hx]; exact (hs.old s hsw).trans hos⟩
    have := (hs.new b (Nat.le_trans hb.size hb') hn).2
    omega
  have hst2 : Step o (fun j => j = i) w o' w8 := hs
  refine ⟨o', hst, ⟨v8, la, lc, _, heap_set_same hs8, (hst.old s hsw).trans hos, by have := hb.size; omega, ?_, fun b hb' => ?_, OnesAt.append ((hO.take k).step hi0 hst) ((hO.drop (k + 1)).step hi0 hst), hlc, ?_⟩⟩
  · exact own_base (own_keep hown fun b hb' _ => heap_set_other _ _ _ _ (by have := own_block_ge hown b hb'; simp only; omega)) (Nat.zero_le _)
  · exact ⟨h1 b hb', by have := own_block_ge hown b hb'; omega, by have := own_lt hown b hb'; omega⟩
  · exact hlr.move hst.keep.size fun b hb' _ => ⟨⟨(hst.old b hb'.2).trans hb'.1, Nat.lt_of_lt_of_le hb'.2 hst.keep.size⟩, hst.block hb'.2 (by rw [hb'.1]; exact hi0)⟩
set_option maxRecDepth 100000 in
set_option maxHeartbeats 8000000 in
theorem forget_any (hS : SnapsO o i w s S) (hM : Marks W o w) (hi : i ≠ 0) (hl8 : S.l.length ≤ 8) (id now : Int) :
    Calls Tryz.prog 49 #[ptr s, .int .i64 id, .int .u64 now] w fun e w' => ∃ er S' o', e = .returned (.int .i64 er) ∧ ForgetR S id now er S' ∧ Step o (fun k => k = i) w o' w' ∧ SnapsO o' i w' s S' := by
  have HS := Lib.hid hS
  have HM := Lib.hid hM
  obtain ⟨v, la, lc, vals, h1, h2, h3, h4, h5, h6, h7, h8⟩ := hS.at_
  obtain ⟨a, c, rfl, hcap⟩ := own_form h4
  obtain ⟨-, -, hrow⟩ := RowAt.of_rown h4 (by unfold maxLen; omega)
  have HF := Lib.hid (find_any hS id (by omega))
  have HH := Lib.hid h1
  have HON := Lib.hid h6
  have HLR := Lib.hid h8
  have HLC := Lib.hid h7
  have HOS := Lib.hid h2
  have HROW := Lib.hid hrow
  obtain ⟨n, hn⟩ : ∃ n, n = S.l.length := ⟨_, rfl⟩
  have HN := Lib.hid hn
  rw [← hn] at hcap hl8
  clear hS hM h1 h2 h4 h5 h6 h7 h8 hrow hn
  go_enter Tryz.func49, Tryz.ntmps49
  go_wp2_with fail
  (with_reducible refine HF.out.mono ?_)
  rintro e w1 ⟨v, rfl, hf, hb1⟩
  have HB1 := Lib.hid hb1
  clear hb1
  rcases hf with ⟨rfl, hno⟩ | ⟨k, x, rfl, hx, hid, hno⟩
  · have HNO := Lib.hid hno
    clear hno
    go_wp2_with fail
    go_ret
    exact ⟨29, S, o, rfl, .inl ⟨rfl, rfl, HNO.out⟩, Step.grow HM.out HB1.out, HS.out.grow HM.out HB1.out⟩
  · have hkn : k < n := by rw [HN.out]; exact (List.getElem?_eq_some_iff.1 hx).1
    have HRW := HROW.out
    rw [← HN.out] at HRW
    obtain ⟨g, off, rfl, hgw, _, hcell⟩ := HRW.at_ (by omega)
    have HRX := Lib.hid HRW
    obtain ⟨ha, hcp, q, e0, e1, e2, e3, e4, e5, e6⟩ := HON.out.at_ hx
    have d2 : w1.cell? ⟨g, off + k * 3 + 2, none⟩ = some (ptr q) := (HB1.out.cell (p := ⟨g, off + k * 3 + 2, none⟩) hgw.2).trans ((hcell (k * 3 + 2) (by omega)).trans e2)
    have hbS := HB1.out.block s h3
    have c0 : w1.cell? ⟨s, 0, none⟩ = some (.slice (some ⟨g, off, none⟩) n c) := by
      have := hbS.trans HH.out
      rw [HN.out]
      simp [World.cell?, this]
    obtain ⟨gg, D, mb, ib, nb, hA, hg9, hD9⟩ := e5.grow HB1.out
    have HBD := Lib.hid (bound_any now w1 hA e6)
    have HFX := Lib.hid (And.intro hx (And.intro hid hno))
    have hneg : ¬ ((k : Int) < 0) := by omega
    have i0 : (0 : Int) ≤ k := by omega
    have i1 : (k : Int) < n := by omega
    have i1' : (k : Int) ≤ c := by omega
    have i2 : (k : Int) + 1 ≤ n := by omega
    have i3 : (0 : Int) ≤ (k : Int) + 1 := by omega
    have i4 : (n : Int) ≤ c := by omega
    have ew : IntKind.i64.wrap ((k : Int) + 1) = (k : Int) + 1 := IntWalk.i64_in _ (by omega)
    clear hx hid hno hcell e0 e1 e2 e3 e4 e5 e6 hA hg9 hD9 HRW hbS
    obtain ⟨bd, hbd⟩ : ∃ bd, bd = decide (0 < (liveM x.t now).length) := ⟨_, rfl⟩
    rw [← hbd] at HBD
    have HBE := Lib.hid hbd
    clear hbd
    cases bd with
    | true =>
      go_wp2_with fail
      (with_reducible refine HBD.out.mono ?_)
      rintro e w2 ⟨rfl, hb2⟩
      have HB2 := Lib.hid hb2
      clear hb2
      go_wp2_with fail
      go_ret
      have hB := HB1.out.trans (HB2.out.mono HB1.out.size)
      exact ⟨28, S, o, rfl, .inr ⟨k, x, HFX.out.1, HFX.out.2.1, HFX.out.2.2, .inl ⟨HBE.out.symm, rfl, rfl⟩⟩, Step.grow HM.out hB, HS.out.grow HM.out hB⟩
    | false =>
      go_wp2_with fail
      (with_reducible refine HBD.out.mono ?_)
      rintro e w2 ⟨rfl, hb2⟩
      have HB2 := Lib.hid (HB1.out.trans (hb2.mono HB1.out.size))
      have hs2 := hb2.size
      have hs1 := HB1.out.size
      have HK : Hid (∀ w', Below w.heap.size w w' → w'.cell? ⟨s, 0, none⟩ = some (.slice (some ⟨g, off, none⟩) n c) ∧ w'.frozen? ⟨s, 0, none⟩ = false) := fun w' hb => by
        have := (hb.block s h3).trans HH.out
        rw [HN.out]
        refine ⟨?_, ?_⟩ <;> simp [World.cell?, World.frozen?, this]
      clear c0 d2 hb2
      go_wp2_with fail
      refine wp_region_noPanic ?_
      refine wp_region_L (last := 18) (S := (fun w' => w'.cell? ⟨s, 0, none⟩ = some (.slice (some ⟨g, off, none⟩) n c) ∧ w'.frozen? ⟨s, 0, none⟩ = false)) (by kernel_rfl) ?_ (fun hS => ?_)
      · exact HK.out _ (HB2.out.trans (Below.refl _ _).drew)
      refine tkL 0 (hS := hS) (h := ?_)
      refine tkL 1 (hS := hS) (h := ?_)
      refine tkL 2 (hS := hS) (h := ?_)
      refine tkL 3 (hS := hS) (h := ?_)
      refine tkL 4 (hS := hS) (h := ?_)
      refine tkL 5 (hS := hS) (h := ?_)
      refine tkL 6 (hS := hS) (h := ?_)
      refine tkL 7 (hS := hS) (h := ?_)
      refine tkL 8 (hS := hS) (h := ?_)
      refine tkL 9 (hS := hS) (h := ?_)
      refine tkL 10 (hS := hS) (h := ?_)
      refine tkL 11 (hS := hS) (h := ?_)
      refine tkL 12 (hS := hS) (h := ?_)
      refine tkL 13 (hS := hS) (h := ?_)
      obtain ⟨A2, hA2⟩ : ∃ A2 : Option Addr, A2 = if c = k + 1 then some ⟨g, off, none⟩ else some ⟨g, off + (k + 1) * 3, none⟩ := ⟨_, rfl⟩
      rw [← hA2]
      have HA2 := Lib.hid hA2
      clear hA2
      refine rdL 14 (h := fun K hK => ?_)
      go_simp
      have hBA : Below w2.heap.size w2 (w2.alloc (.cells #[.slice (some ⟨g, off, none⟩) k c, .slice A2 (n - (k + 1)) (c - (k + 1))] 99)).drew := (wall w2 _).trans (Below.refl _ _).drew
      have hBW : Below w.heap.size w (w2.alloc (.cells #[.slice (some ⟨g, off, none⟩) k c, .slice A2 (n - (k + 1)) (c - (k + 1))] 99)).drew := HB2.out.trans (hBA.mono HB2.out.size)
      have HBW := Lib.hid hBW
      obtain ⟨hC0, hC1, hzA⟩ := two_cells w2 (.slice (some ⟨g, off, none⟩) k c) (.slice A2 (n - (k + 1)) (c - (k + 1))) 99
      have hRR := (cut_rowsO (c := c) HRX.out hkn hBW).resolve_right (by omega)
      rw [← HA2.out] at hRR
      have hv1 := HON.out.one
      have hvl := HON.out.len
      have hfl : ([vals.take (k * 3), vals.drop ((k + 1) * 3)].flatten).length = (k + (n - (k + 1))) * 3 := by
        rw [← HN.out] at hvl
        simp [hvl]; omega
      have HCC := Lib.hid (concatO_any (w2.heap.size) 2 (k + (n - (k + 1))) [vals.take (k * 3), vals.drop ((k + 1) * 3)] _ rfl (by omega) hzA hfl (by omega) (fun j hj => by
        rcases j with _ | _ | j
        · exact ⟨_, _, _, _, hC0, hRR.1, rfl, fun u hu => hv1 u (List.mem_of_mem_take hu)⟩
        · exact ⟨_, _, _, _, hC1, hRR.2, rfl, fun u hu => hv1 u (List.mem_of_mem_drop hu)⟩
        · omega))
      have HBA := Lib.hid hBA
      clear hBA hC0 hC1 hRR hv1 hvl hfl hzA
      refine hK.out _ _ (fun _ => HK.out _ hBW) (fun hS => ?_)
      replace hS := hS (by decide)
      clear hK K
      try simp only [Act.put, List.setIfInBounds_toArray, List.set_cons_zero, List.set_cons_succ]
      clear hBW
      refine rdL 15 (h := fun K hK => ?_)
      go_simp
      (with_reducible refine HCC.out.mono ?_)
      rintro e w3 ⟨v8, rfl, hown, hb3⟩
      have HB3 := Lib.hid (HBW.out.trans (hb3.mono HBW.out.size))
      have HOWN := Lib.hid hown
      obtain ⟨a8, c8, rfl, -⟩ := own_form hown
      clear hown hb3
      go_wp2_with fail
      refine hK.out _ _ (fun _ => HK.out _ HB3.out) (fun hS => ?_)
      replace hS := hS (by decide)
      clear hK K
      try simp only [Act.put, List.setIfInBounds_toArray, List.set_cons_zero, List.set_cons_succ]
      refine tkL 16 (hS := hS) (h := ?_)
      refine tkL 17 (hS := hS) (h := ?_)
      refine rdL 18 (h := fun K hK => ?_)
      go_simp
      refine hK.out _ _ (fun h => absurd rfl h) (fun hS => ?_)
      clear hS hK K
      try simp only [Act.put, List.setIfInBounds_toArray, List.set_cons_zero, List.set_cons_succ]
      refine wpAnyL_done (by kernel_rfl) ?_ _
      refine NoPanic.normal ?_
      go_wp2_with fail
      go_ret
      have hlen : (S.l.take k ++ S.l.drop (k + 1)).length = k + (n - (k + 1)) := by
        have := HN.out
        rw [List.length_append, List.length_take, List.length_drop]; omega
      have hown := HOWN.out
      rw [← hlen] at hown
      have hfe : [vals.take (k * 3), vals.drop ((k + 1) * 3)].flatten = vals.take (k * 3) ++ vals.drop ((k + 1) * 3) := by simp
      rw [hfe] at hown
      obtain ⟨o', hs, hSn⟩ := forget_end (k := k) HM.out hi HH.out HOS.out h3 HON.out HLC.out HLR.out HB3.out hown HBW.out.size
      rw [hlen] at hs hSn
      exact ⟨0, _, o', rfl, .inr ⟨k, x, HFX.out.1, HFX.out.2.1, HFX.out.2.2, .inr ⟨HBE.out.symm, rfl, rfl⟩⟩, hs, hSn⟩
end
end Go.Proofs.YtmabllemjkcobaaGreatDoor
namespace Go.Proofs.YtmabllemjkcobaaGreatDoor
open Go.ChangeShapes Go.WideShapes Go.ChangeAt Go.RowKit
set_option linter.unusedVariables false
set_option linter.unusedSimpArgs false

/-- The texts that an operation asks by. -/
def opTexts (x : OpM) : List (List UInt8) :=
  if x.kind = 7 ∨ x.kind = 10 then [x.path, x.to_] else
  if x.kind = 1 ∨ x.kind = 2 ∨ x.kind = 3 ∨ x.kind = 8 ∨ x.kind = 9 ∨ x.kind = 11 ∨ x.kind = 12 ∨ x.kind = 13 then [x.path] else []
def splitsM : List (List UInt8) → List (List Nm) × Int
  | [] => ([], 0)
  | a :: r => if (pathSplit a).2 ≠ 0 then ([], (pathSplit a).2) else if (splitsM r).2 ≠ 0 then ([], (splitsM r).2) else ((pathSplit a).1 :: (splitsM r).1, 0)
def pathsO (x : OpM) : List (List Nm) × Int := if 1 ≤ x.kind ∧ x.kind ≤ 17 then splitsM (opTexts x) else ([], 30)
def sforgetM (S : SnM) (id now : Int) : Int × SnM := match S.l.findIdx? (fun x => decide (x.id = id)) with
  | none => (29, S)
  | some k => match S.l[k]? with
    | none => (29, S)
    | some x => if boundM x.t now = true then (28, S) else (0, cutM S k)
def nextM (now tick : Int) : Int := if tick ≤ 1099511627776 then (if now ≤ tick then tick else now) else now
def ofEr (q : Int × StM) : ReM × StM := (noM q.1, q.2)
def StM.tr (M : StM) (T : TrM) : StM := { M with t := T }
def StM.sn (M : StM) (S : SnM) : StM := { M with s := S }
def sdoP (M : StM) (x : OpM) (p q : List Nm) : ReM × StM :=
  if x.kind = 1 then screateM M p else
  if x.kind = 2 then (noM (makeM M.t p 2).1.2, M.tr (makeM M.t p 2).2) else
  if x.kind = 3 then sopenM M p x.snap else
  if x.kind = 4 then (sreadM M x, M) else
  if x.kind = 5 then swriteM M x else
  if x.kind = 6 then ofEr (scloseM M x) else
  if x.kind = 7 then (noM (linkM M.t p q).1, M.tr (linkM M.t p q).2) else
  if x.kind = 8 then ofEr (sunlinkM M p) else
  if x.kind = 9 then (noM (rmdirM M.t p).1, M.tr (rmdirM M.t p).2) else
  if x.kind = 10 then (noM (renameM M.t p q).1, M.tr (renameM M.t p q).2) else
  if x.kind = 11 ∨ x.kind = 12 then (slookM M x p, M) else
  if x.kind = 13 then ofEr (skeepM M p x.til) else
  if x.kind = 14 then (⟨(takeM M.s M.t).1.2, (takeM M.s M.t).1.1, [], [], none⟩, M.sn (takeM M.s M.t).2) else
  if x.kind = 15 then (noM (sforgetM M.s x.snap M.now).1, M.sn (sforgetM M.s x.snap M.now).2) else
  if x.kind = 16 then (noM 0, { M with now := nextM M.now x.til }) else (noM 0, M)
/-- What Do does. -/
def sdoM (M : StM) (x : OpM) : ReM × StM :=
  if (pathsO x).2 ≠ 0 then (noM (pathsO x).2, M) else sdoP M x ((pathsO x).1.getD 0 []) ((pathsO x).1.getD 1 [])
theorem ForgetR.eq {S S' : SnM} {id now er : Int} (h : ForgetR S id now er S') : sforgetM S id now = (er, S') := by
  unfold sforgetM
  rcases h with ⟨rfl, rfl, hno⟩ | ⟨k, x, hx, hid, hno, h⟩
  · have : S'.l.findIdx? (fun x => decide (x.id = id)) = none := by
      rw [List.findIdx?_eq_none_iff]
      intro x hx
      simpa using hno x hx
    rw [this]
  · have : S.l.findIdx? (fun x => decide (x.id = id)) = some k := by
      obtain ⟨hk, e⟩ := List.getElem?_eq_some_iff.1 hx
      rw [List.findIdx?_eq_some_iff_getElem]
      refine ⟨hk, by rw [e]; simpa using hid, fun j hj => ?_⟩
      have hm : S.l[j]'(by omega) ∈ S.l.take k := by
        rw [List.mem_take_iff_getElem]
        exact ⟨j, by omega, rfl⟩
      simpa using hno _ hm
    rw [this]
    dsimp only
    rw [hx]
    dsimp only
    rcases h with ⟨h1, rfl, rfl⟩ | ⟨h1, rfl, rfl⟩
    · rw [if_pos h1]
    · rw [if_neg (by rw [h1]; simp)]

/-- A descriptor that is right. -/
def FdOk (f : FdM) : Prop := 0 ≤ f.id ∧ f.id ≤ 65535 ∧ f.b.length ≤ 4096
structure SnOk (S : SnM) : Prop where
  few : S.l.length ≤ 8
  last : S.last.length ≤ 64
  each : ∀ x ∈ S.l, Okay x.t
structure StOk (c : Int) (M : StM) : Prop where
  t : Okay M.t
  s : SnOk M.s
  next : 0 ≤ M.s.next ∧ M.s.next ≤ c
  now : 0 ≤ M.now ∧ M.now ≤ 1099511627776
  fd : ∀ n f, M.fds n = some f → FdOk f
theorem StOk.mono {c d : Int} {M : StM} (h : StOk c M) (hcd : c ≤ d) : StOk d M := ⟨h.t, h.s, ⟨h.next.1, by have := h.next.2; omega⟩, h.now, h.fd⟩
theorem StOk.new : StOk 1 newSt := ⟨Okay.new, ⟨by decide, by decide, fun x hx => by cases hx⟩, ⟨by decide, by decide⟩, ⟨by decide, by decide⟩, fun n f h => by cases h⟩
theorem StOk.tr {c : Int} {M : StM} (h : StOk c M) {T : TrM} (hT : Okay T) : StOk c (M.tr T) := ⟨hT, h.s, h.next, h.now, h.fd⟩
theorem StOk.put {c : Int} {M : StM} (h : StOk c M) (n : Nat) (f : Option FdM) (hf : ∀ g, f = some g → FdOk g) : StOk c (M.put n f) :=
  ⟨h.t, h.s, h.next, h.now, fun m g hg => by
    have hg : (if m = n then f else M.fds m) = some g := hg
    by_cases hm : m = n
    · rw [if_pos hm] at hg; exact hf g hg
    · rw [if_neg hm] at hg; exact h.fd m g hg⟩
theorem shaM_le (bs : List UInt8) : (shaM bs).length ≤ 64 := by rw [shaM_len]; omega
theorem SnOk.take {S : SnM} (h : SnOk S) {T : TrM} (hT : Okay T) : SnOk (takeM S T).2 := by
  unfold takeM
  by_cases h8 : 8 ≤ S.l.length
  · rw [if_pos h8]; exact h
  · rw [if_neg h8]
    refine ⟨by simp; omega, shaM_le _, fun x hx => ?_⟩
    rcases List.mem_append.1 hx with hx | hx
    · exact h.each x hx
    · rw [List.mem_singleton.1 hx]; exact hT.commitM
theorem takeM_next (S : SnM) (T : TrM) : (takeM S T).2.next = S.next ∨ (takeM S T).2.next = S.next + 1 := by
  unfold takeM
  split
  · exact .inl rfl
  · exact .inr rfl
theorem SnOk.cut {S : SnM} (h : SnOk S) (k : Nat) : SnOk (cutM S k) := by
  refine ⟨?_, h.last, fun x hx => ?_⟩
  · have := h.few
    show (S.l.take k ++ S.l.drop (k + 1)).length ≤ 8
    rw [List.length_append, List.length_take, List.length_drop]; omega
  · rcases List.mem_append.1 (show x ∈ S.l.take k ++ S.l.drop (k + 1) from hx) with hx | hx
    · exact h.each x (List.mem_of_mem_take hx)
    · exact h.each x (List.mem_of_mem_drop hx)
theorem sforget_eq (S : SnM) (id now : Int) : (sforgetM S id now).2 = S ∨ ∃ k, (sforgetM S id now).2 = cutM S k := by
  unfold sforgetM
  split
  · exact .inl rfl
  · split
    · exact .inl rfl
    · split
      · exact .inl rfl
      · exact .inr ⟨_, rfl⟩
theorem SnOk.forget {S : SnM} (h : SnOk S) (id now : Int) : SnOk (sforgetM S id now).2 ∧ (sforgetM S id now).2.next = S.next := by
  rcases sforget_eq S id now with h1 | ⟨k, h1⟩
  · rw [h1]; exact ⟨h, rfl⟩
  · rw [h1]; exact ⟨h.cut k, rfl⟩
theorem nextM_ok {now tick : Int} (h : 0 ≤ now ∧ now ≤ 1099511627776) : 0 ≤ nextM now tick ∧ nextM now tick ≤ 1099511627776 := by
  unfold nextM
  split
  · split
    · omega
    · omega
  · omega
theorem make_small {T : TrM} (hT : OkM T) (ls : List Nm) (kind : Int) : 0 ≤ (makeM T ls kind).1.1 ∧ (makeM T ls kind).1.1 ≤ 65535 := by
  unfold makeM
  split
  · obtain ⟨f, h1, h2, h3, _⟩ := hT.free
    have := hT.len
    dsimp only
    rw [h1]; omega
  · simp
theorem StOk.treeAt {c : Int} {M : StM} (h : StOk c M) {id : Int} {T : TrM} (hT : treeAtM M id = some T) : Okay T := by
  unfold treeAtM at hT
  split at hT
  · cases hT; exact h.t
  · cases hf : findM M.s id with
    | none => rw [hf] at hT; cases hT
    | some y =>
      rw [hf] at hT
      cases hT
      exact h.s.each y (List.mem_of_find?_eq_some hf)
theorem read_le {T : TrM} (hT : OkM T) (id a n : Int) : (readB T id a n).length ≤ 4096 := by
  unfold readB
  split
  · simp
  · rename_i x hx
    split
    · simp
    · have := (hT.each id x hx).size
      unfold partB
      split
      · simp
      · rw [List.length_take, List.length_drop]; omega
theorem StOk.create {c : Int} {M : StM} (h : StOk c M) (ls : List Nm) : StOk c (screateM M ls).2 := by
  unfold screateM
  split
  · exact h
  · split
    · exact h.tr (h.t.makeM ls 1)
    · refine (h.tr (h.t.makeM ls 1)).put _ _ fun g hg => ?_
      cases hg
      have := make_small h.t.1 ls 1
      exact ⟨this.1, this.2, by simp⟩
theorem StOk.open {c : Int} {M : StM} (h : StOk c M) (ls : List Nm) (id : Int) : StOk c (sopenM M ls id).2 := by
  unfold sopenM
  split
  · exact h
  · rename_i T hT
    split
    · exact h
    · unfold openT
      split
      · exact h
      · split
        · exact h
        · split
          · exact h
          · split
            · exact h
            · refine h.put _ _ fun g hg => ?_
              cases hg
              exact ⟨by simp, by simp, read_le (h.treeAt hT).1 _ _ _⟩
theorem StOk.write {c : Int} {M : StM} (h : StOk c M) (x : OpM) : StOk c (swriteM M x).2 := by
  unfold swriteM
  split
  · exact h
  · split
    · exact h
    · exact h.tr (h.t.appendM _ _)
theorem StOk.close {c : Int} {M : StM} (h : StOk c M) (x : OpM) (hx : OpOk x) : StOk c (scloseM M x).2 := by
  unfold scloseM
  split
  · split
    · exact h.tr (h.t.sealM _ _ hx.wt.1)
    · exact (h.tr (h.t.sealM _ _ hx.wt.1)).put _ _ fun g hg => by cases hg
  · split
    · exact h
    · exact h.put _ _ fun g hg => by cases hg
theorem StOk.unlink {c : Int} {M : StM} (h : StOk c M) (ls : List Nm) : StOk c (sunlinkM M ls).2 := by
  unfold sunlinkM
  split
  · exact h
  · split
    · exact h
    · exact h.tr (h.t.unlinkM ls)
theorem StOk.keep {c : Int} {M : StM} (h : StOk c M) (ls : List Nm) (til : Int) (ht : 0 ≤ til) : StOk c (skeepM M ls til).2 := by
  unfold skeepM
  split
  · exact h
  · split
    · exact h
    · exact h.tr (h.t.keepM _ _ ht)
theorem StOk.do_ {c : Int} {M : StM} (h : StOk c M) (x : OpM) (hx : OpOk x) : StOk (c + 1) (sdoM M x).2 := by
  have h' := h.mono (show c ≤ c + 1 by omega)
  unfold sdoM
  by_cases h0 : (pathsO x).2 ≠ 0
  · rw [if_pos h0]; exact h'
  · rw [if_neg h0]
    unfold sdoP
    by_cases h1 : x.kind = 1
    · rw [if_pos h1]; exact h'.create _
    rw [if_neg h1]
    by_cases h2 : x.kind = 2
    · rw [if_pos h2]; exact h'.tr (h.t.makeM _ _)
    rw [if_neg h2]
    by_cases h3 : x.kind = 3
    · rw [if_pos h3]; exact h'.open _ _
    rw [if_neg h3]
    by_cases h4 : x.kind = 4
    · rw [if_pos h4]; exact h'
    rw [if_neg h4]
    by_cases h5 : x.kind = 5
    · rw [if_pos h5]; exact h'.write _
    rw [if_neg h5]
    by_cases h6 : x.kind = 6
    · rw [if_pos h6]; exact h'.close _ hx
    rw [if_neg h6]
    by_cases h7 : x.kind = 7
    · rw [if_pos h7]; exact h'.tr (h.t.linkM _ _)
    rw [if_neg h7]
    by_cases h8 : x.kind = 8
    · rw [if_pos h8]; exact h'.unlink _
    rw [if_neg h8]
    by_cases h9 : x.kind = 9
    · rw [if_pos h9]; exact h'.tr (h.t.rmdirM _)
    rw [if_neg h9]
    by_cases h10 : x.kind = 10
    · rw [if_pos h10]; exact h'.tr (h.t.renameM _ _)
    rw [if_neg h10]
    by_cases h11 : x.kind = 11 ∨ x.kind = 12
    · rw [if_pos h11]; exact h'
    rw [if_neg h11]
    by_cases h13 : x.kind = 13
    · rw [if_pos h13]; exact h'.keep _ _ hx.wt.1
    rw [if_neg h13]
    by_cases h14 : x.kind = 14
    · rw [if_pos h14]
      refine ⟨h.t, h.s.take h.t, ?_, h.now, h.fd⟩
      have := h.next
      rcases takeM_next M.s M.t with e | e
      · show 0 ≤ (takeM M.s M.t).2.next ∧ (takeM M.s M.t).2.next ≤ c + 1
        omega
      · show 0 ≤ (takeM M.s M.t).2.next ∧ (takeM M.s M.t).2.next ≤ c + 1
        omega
    rw [if_neg h14]
    by_cases h15 : x.kind = 15
    · rw [if_pos h15]
      obtain ⟨k1, k2⟩ := h.s.forget x.snap M.now
      refine ⟨h.t, k1, ?_, h.now, h.fd⟩
      have := h'.next
      show 0 ≤ (sforgetM M.s x.snap M.now).2.next ∧ (sforgetM M.s x.snap M.now).2.next ≤ c + 1
      rw [k2]; exact this
    rw [if_neg h15]
    by_cases h16 : x.kind = 16
    · rw [if_pos h16]; exact ⟨h.t, h.s, h'.next, nextM_ok h.now, h.fd⟩
    rw [if_neg h16]
    exact h'
end Go.Proofs.YtmabllemjkcobaaGreatDoor
namespace Go.Proofs.YtmabllemjkcobaaGreatDoor
open Go.ChangeShapes Go.WideShapes Go.ChangeAt Go.RowKit
set_option linter.unusedVariables false
set_option linter.unusedSimpArgs false

end Go.Proofs.YtmabllemjkcobaaGreatDoor
namespace Go.Proofs.YtmabllemjkcobaaGreatDoor
open Go.ChangeShapes Go.WideShapes Go.ChangeAt Go.RowKit
set_option linter.unusedVariables false
set_option linter.unusedSimpArgs false

end Go.Proofs.YtmabllemjkcobaaGreatDoor
namespace Go.Proofs.YtmabllemjkcobaaGreatDoor
open Go.ChangeShapes Go.WideShapes Go.ChangeAt Go.RowKit
set_option linter.unusedVariables false

end Go.Proofs.YtmabllemjkcobaaGreatDoor
namespace Go.Proofs.YtmabllemjkcobaaGreatDoor
open Go.ChangeShapes Go.WideShapes Go.ChangeAt Go.RowKit
set_option linter.unusedVariables false
set_option linter.unusedSimpArgs false

/-- A path as a value. -/
def PathV (S : Nat → Prop) (w : World) (u : Value) (q : List Nm) : Prop := ∃ a c, u = .slice a q.length c ∧ q.length ≤ c ∧ StrsAt S w a q.length (q.map strOf)
def PathVs (S : Nat → Prop) (w : World) (vals : List Value) (l : List (List Nm)) : Prop := vals.length = l.length ∧ ∀ (i : Nat) (q : List Nm), l[i]? = some q → ∃ u, vals[i]? = some u ∧ PathV S w u q
theorem PathV.move {S S' : Nat → Prop} {w w' : World} {u : Value} {q : List Nm} (h : PathV S w u q) (hs : w.heap.size ≤ w'.heap.size) (hk : ∀ b, S b → b < w.heap.size → S' b ∧ w'.heap[b]? = w.heap[b]?) : PathV S' w' u q := by
  obtain ⟨a, c, h1, h2, h3⟩ := h
  exact ⟨a, c, h1, h2, h3.row.move hs hk, h3.short⟩
theorem PathVs.move {S S' : Nat → Prop} {w w' : World} {vals : List Value} {l : List (List Nm)} (h : PathVs S w vals l) (hs : w.heap.size ≤ w'.heap.size) (hk : ∀ b, S b → b < w.heap.size → S' b ∧ w'.heap[b]? = w.heap[b]?) : PathVs S' w' vals l :=
  ⟨h.1, fun i q hq => by
    obtain ⟨u, h1, h2⟩ := h.2 i q hq
    exact ⟨u, h1, h2.move hs hk⟩⟩
theorem PathVs.append {S : Nat → Prop} {w : World} {v1 v2 : List Value} {l1 l2 : List (List Nm)} (h : PathVs S w v1 l1) (k : PathVs S w v2 l2) : PathVs S w (v1 ++ v2) (l1 ++ l2) := by
  refine ⟨by rw [List.length_append, List.length_append, h.1, k.1], fun i q hq => ?_⟩
  by_cases hi : i < l1.length
  · rw [List.getElem?_append_left hi] at hq
    rw [List.getElem?_append_left (by rw [h.1]; exact hi)]
    exact h.2 i q hq
  · rw [List.getElem?_append_right (by omega)] at hq
    rw [List.getElem?_append_right (by rw [h.1]; omega), h.1]
    exact k.2 _ q hq
/-- out, and these in some order behind it. -/
def NamesRel (B : Nat) (w : World) (v : Value) (m : Nat) (xs : List Value) (L : List (List Nm)) (v' : Value) (w' : World) : Prop :=
  ∃ vals l, l.Perm L ∧ w'.ownsRow B 32 1 v' (m + l.length) (xs ++ vals) ∧ PathVs (fun b => w.heap.size ≤ b ∧ b < w'.heap.size ∧ v'.ownBlock ≠ some b) w' vals l ∧ Keeps (fun b => v.ownBlock = some b) w w' ∧ ∀ b, v'.ownBlock = some b → v.ownBlock = some b ∨ w.heap.size ≤ b
theorem NamesRel.refl {B : Nat} {w : World} {v : Value} {m : Nat} {xs : List Value} (h : w.ownsRow B 32 1 v m xs) : NamesRel B w v m xs [] v w :=
  ⟨[], [], List.Perm.refl _, by simpa using h, ⟨rfl, fun i q hq => by simp at hq⟩, Keeps.refl _ _, fun b hb => .inl hb⟩
/-- One behind another. -/
theorem NamesRel.trans {B : Nat} {w w1 w2 : World} {v v1 v2 : Value} {m : Nat} {xs : List Value} {L1 L2 : List (List Nm)} (h : NamesRel B w v m xs L1 v1 w1) (k : ∀ m1 xs1, w1.ownsRow B 32 1 v1 m1 xs1 → NamesRel B w1 v1 m1 xs1 L2 v2 w2) : NamesRel B w v m xs (L1 ++ L2) v2 w2 := by
  obtain ⟨vals, l, hp, ho, hv, hK, hb⟩ := h
  obtain ⟨vals2, l2, hp2, ho2, hv2, hK2, hb2⟩ := k _ _ ho
  have hs1 := hK.size
  have hs2 := hK2.size
  refine ⟨vals ++ vals2, l ++ l2, hp.append hp2, by rw [List.length_append, ← Nat.add_assoc, ← List.append_assoc]; exact ho2, ?_, hK.trans hK2 fun x hx hx1 => ?_, fun b hb' => ?_⟩
  · refine (hv.move (by omega) fun b hS hbw => ⟨⟨hS.1, by omega, fun he => ?_⟩, hK2.block b hbw fun he => hS.2.2 he⟩).append (hv2.move (Nat.le_refl _) fun b hS hbw => ⟨⟨by omega, hS.2.1, hS.2.2⟩, rfl⟩)
    rcases hb2 b he with h1 | h1
    · exact hS.2.2 h1
    · omega
  · rcases hb x hx1 with h1 | h1
    · exact h1
    · omega
  · rcases hb2 b hb' with h1 | h1
    · exact hb b h1
    · exact .inr (by omega)
end Go.Proofs.YtmabllemjkcobaaGreatDoor
namespace Go.Proofs.YtmabllemjkcobaaGreatDoor
open Go.ChangeShapes Go.WideShapes Go.ChangeAt Go.RowKit
set_option linter.unusedVariables false
set_option linter.unusedSimpArgs false

def bmk (l : List UInt8) : ByteArray := ⟨l.toArray⟩
theorem bmk_size (l : List UInt8) : (bmk l).size = l.length := by simp [bmk, ByteArray.size]
/-- A path that is small. -/
def Small (q : List Nm) : Prop := q.length ≤ 64 ∧ ∀ n ∈ q, n.length ≤ 16
end Go.Proofs.YtmabllemjkcobaaGreatDoor
namespace Go.Proofs.YtmabllemjkcobaaGreatDoor
open Go.ChangeShapes Go.WideShapes Go.ChangeAt Go.RowKit
set_option linter.unusedVariables false

theorem bls_len (ss : List ByteArray) : (bls ss).length = ss.length := by simp [bls]


theorem strs_new {w : World} {e : TypeId} {ss : List ByteArray} {n : Nat} (hn : ss.length = n) (hm : n ≤ maxLen) (hs : ∀ s ∈ ss, s.size ≤ maxLen) : StrsAt (Fresh w.heap.size) (w.alloc (.cells (ss.map Value.string).toArray e)) (some ⟨w.heap.size, 0, none⟩) n ss := by
  refine ⟨⟨by simpa using hn, hm, fun _ => ⟨w.heap.size, 0, rfl, Nat.le_refl _, by simp, fun i hi => ?_⟩⟩, hs⟩
  have hh : (w.alloc (.cells (ss.map Value.string).toArray e)).heap[w.heap.size]? = some (.cells (ss.map Value.string).toArray e) := (MapKept.heap_alloc w _).1
  simp only [World.cell?, hh, Nat.zero_add]
  simp
theorem bls_any (ss : List ByteArray) : ss.any badS = (bls ss).any (fun x => !goodL x) := by
  unfold bls; rw [List.any_map]; rfl
theorem fine_bls (ss : List ByteArray) : fineE ss = fineL (bls ss) := by
  unfold fineE fineL; rw [bls_any, bls_len]


def RetSplit (w : World) (l : List UInt8) (e : Ending) (w' : World) : Prop :=
  ∃ a len cap ss, e = .returned (.tuple #[.slice a len cap, .int .i64 (pathSplit l).2]) ∧ len ≤ cap ∧ bls ss = (pathSplit l).1 ∧ StrsAt (Fresh w.heap.size) w' a len ss ∧ Below w.heap.size w w'

theorem split_any (s : ByteArray) (w : World) (hs : s.size < 4294967281) (m : Int) (hm : w.cell? ⟨0, 0, none⟩ = some (.int .i64 m)) :
    Calls Tryz.prog 94 #[.string s] w (RetSplit w s.data.toList) := by
  obtain ⟨l, hl⟩ : ∃ l, s.data.toList = l := ⟨_, rfl⟩
  rw [hl]
  have hsl : s.size = l.length := by rw [← hl]; simp
  have HC := Tryz.strings_CutPrefix s ⟨#[47]⟩
  rw [hl] at HC
  have ways : (Lib.hasPrefix l [47] = false ∧ pathSplit l = ([], 12)) ∨ (l = [47] ∧ pathSplit l = ([], 0)) ∨ (∃ r, r ≠ [] ∧ l = 47 :: r ∧ pathSplit l = if fineL (splitL r) = 0 then (splitL r, 0) else ([], fineL (splitL r))) := by
    cases l with
    | nil => exact Or.inl ⟨rfl, rfl⟩
    | cons c r =>
      by_cases h : c = 47
      · subst h
        by_cases hr : r = []
        · subst hr; exact Or.inr (Or.inl ⟨rfl, rfl⟩)
        · exact Or.inr (Or.inr ⟨r, hr, rfl, by simp [pathSplit, hr]⟩)
      · refine Or.inl ⟨?_, by simp [pathSplit, h]⟩
        simp [Lib.hasPrefix, List.isPrefixOf]
        exact fun e => h e.symm
  clear hl
  rcases ways with ⟨h1, h2⟩ | ⟨h1, h2⟩ | ⟨r, h1, h2, h3⟩
  · have HP := Lib.hid h2
    rw [h1] at HC
    clear h1 h2 hsl
    go_enter Tryz.func94, Tryz.ntmps94
    go_wp2_with fail
    refine (HC _).mono ?_
    rintro e w1 ⟨rfl, rfl⟩
    clear HC
    go_wp2_with fail
    go_ret2
    exact ⟨none, 0, 0, [], by rw [HP.out]; rfl, by simp, by rw [HP.out]; rfl, ⟨RowAt.nil _ _ _, by simp⟩, Below.refl _ _⟩
  · have HP := Lib.hid h2
    subst h1
    clear h2 hsl
    rw [show Lib.trimPrefix [47] [47] = [] from rfl, show Lib.hasPrefix [47] [47] = true from rfl] at HC
    go_enter Tryz.func94, Tryz.ntmps94
    go_wp2_with fail
    refine (HC _).mono ?_
    rintro e w1 ⟨rfl, rfl⟩
    clear HC
    go_wp2_with fail
    go_ret2
    exact ⟨none, 0, 0, [], by rw [HP.out]; rfl, by simp, by rw [HP.out]; rfl, ⟨RowAt.nil _ _ _, by simp⟩, Below.refl _ _⟩
  · subst h2
    have HP := Lib.hid h3
    clear h3
    have e1 : Lib.trimPrefix (47 :: r) [47] = r := by simp [Lib.trimPrefix, Lib.hasPrefix, List.isPrefixOf]
    have e2 : Lib.hasPrefix (47 :: r) [47] = true := by simp [Lib.hasPrefix, List.isPrefixOf]
    rw [show (⟨#[47]⟩ : ByteArray).data.toList = [47] from rfl, e1, e2] at HC
    clear e1 e2
    obtain ⟨t, ht⟩ : ∃ t, t = bmk r := ⟨_, rfl⟩
    have ht' : (⟨r.toArray⟩ : ByteArray) = t := ht.symm
    rw [ht'] at HC
    have htl : t.data.toList = r := by rw [ht]; rfl
    have hts : t.size = r.length := by rw [ht, bmk_size]
    have hte := ByteArray.toList_eq t
    rw [htl] at hte
    have ht1 : ¬ t.toList = [] := by rw [hte]; exact h1
    have ht2 : t.toList.isEmpty = false := by rw [hte]; simpa using h1
    have hsz : t.size < 4294967281 := by rw [hts]; simp at hsl; omega
    clear ht ht' hte
    obtain ⟨hB, hcn⟩ := splitB_ours t
    rw [htl] at hB hcn
    have hlen : (Lib.splitB ⟨#[47]⟩ 0 (Lib.countB t ⟨#[47]⟩) t).length = Lib.countB t ⟨#[47]⟩ + 1 := by
      have := congrArg List.length hB
      rw [List.length_map, splitL_length] at this
      omega
    have hcl : Lib.countB t ⟨#[47]⟩ + 1 ≤ r.length + 1 := by rw [hcn]; have := List.count_le_length (a := (47 : UInt8)) (l := r); omega
    have hshort : ∀ x ∈ Lib.splitB ⟨#[47]⟩ 0 (Lib.countB t ⟨#[47]⟩) t, x.size ≤ maxLen := by
      intro x hx
      have h5 : x.data.toList ∈ splitL r := by rw [← hB]; exact List.mem_map.2 ⟨x, hx, rfl⟩
      have := splitL_le r _ h5
      have h6 : x.data.toList.length = x.size := by simp
      unfold maxLen
      omega
    obtain ⟨ss, hss⟩ : ∃ ss, ss = Lib.splitB ⟨#[47]⟩ 0 (Lib.countB t ⟨#[47]⟩) t := ⟨_, rfl⟩
    have HS := Tryz.strings_Split t ⟨#[47]⟩ m w hsz hm (by decide)
    obtain ⟨n, hn⟩ : ∃ n, n = Lib.countB t ⟨#[47]⟩ + 1 := ⟨_, rfl⟩
    rw [← hss, ← hn] at HS
    rw [← hss] at hB hlen hshort
    rw [← hn] at hlen hcl
    have hnm : n ≤ maxLen := by unfold maxLen; omega
    have HSt := strs_new (w := w) (e := 9) hlen hnm hshort
    have HF := fine_any (S := Fresh w.heap.size) (some ⟨w.heap.size, 0, none⟩) n n ss _ HSt
    rw [fine_bls, show bls ss = splitL r from hB] at HF
    have HB := Lib.hid hB
    clear hB hlen hshort hss hn hcn hcl hnm htl hts hsl
    cases hf : (fineL (splitL r) != 0)
    · have hf0 : fineL (splitL r) = 0 := by simpa using hf
      have HF0 := Lib.hid hf0
      clear hf0
      go_enter Tryz.func94, Tryz.ntmps94
      go_wp2_with fail
      refine (HC _).mono ?_
      rintro e w1 ⟨rfl, rfl⟩
      clear HC
      go_wp2_with fail
      refine HS.mono ?_
      rintro e w1 ⟨rfl, rfl⟩
      go_wp2_with fail
      refine HF.mono ?_
      rintro e w1 ⟨rfl, hb⟩
      go_wp2_with fail
      go_ret2
      refine ⟨_, n, n, ss, by rw [HP.out, if_pos HF0.out]; rfl, Nat.le_refl _, by rw [HP.out, if_pos HF0.out]; exact HB.out, HSt.below hb (by simp), ((Below.refl _ _).alloc (Nat.le_refl _) _).trans (hb.mono (by simp))⟩
    · have hf0 : fineL (splitL r) ≠ 0 := by simpa using hf
      have HF0 := Lib.hid hf0
      clear hf0
      go_enter Tryz.func94, Tryz.ntmps94
      go_wp2_with fail
      refine (HC _).mono ?_
      rintro e w1 ⟨rfl, rfl⟩
      clear HC
      go_wp2_with fail
      refine HS.mono ?_
      rintro e w1 ⟨rfl, rfl⟩
      go_wp2_with fail
      refine HF.mono ?_
      rintro e w1 ⟨rfl, hb⟩
      go_wp2_with fail
      go_ret2
      refine ⟨none, 0, 0, [], by rw [HP.out, if_neg HF0.out]; rfl, by simp, by rw [HP.out, if_neg HF0.out]; rfl, ⟨RowAt.nil _ _ _, by simp⟩, ((Below.refl _ _).alloc (Nat.le_refl _) _).trans (hb.mono (by simp))⟩
end Go.Proofs.YtmabllemjkcobaaGreatDoor
