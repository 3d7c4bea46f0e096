/- TreeLinks, plainly. TreeLinks: the walk. -/
import Derived.Test.YtbapdoicejakhaaGreatM43
namespace Go.Proofs.YtbapdoicejakhaaGreat
open Go.ChangeShapes Go.WideShapes Go.ChangeAt Go.RowKit
set_option linter.unusedVariables false
set_option linter.unusedSimpArgs false

theorem lookM_mono {T T' : TrM} (h : ∀ a x n k, aget a T = some x → x.kind = 2 → aget n x.names = some k → ∃ y, aget a T' = some y ∧ y.kind = 2 ∧ aget n y.names = some k) : ∀ (p : List Nm) (a id : Int), lookM T a p = (id, 0) → lookM T' a p = (id, 0)
  | [], a, id, hl => hl
  | m :: r, a, id, hl => by
    obtain ⟨x, k, hx, hk, hn, hr⟩ := look_cons hl
    obtain ⟨y, hy, hyk, hyn⟩ := h a x m k hx hk hn
    unfold lookM
    rw [hy]
    simp only
    rw [if_pos hyk, hyn]
    exact lookM_mono h r k id hr
theorem lookM_mono0 {T T' : TrM} (hT : OkM T) (h : ∀ a x n k, a ≠ 0 → aget a T = some x → x.kind = 2 → aget n x.names = some k → ∃ y, aget a T' = some y ∧ y.kind = 2 ∧ aget n y.names = some k) : ∀ (p : List Nm) (a id : Int), a ≠ 0 → lookM T a p = (id, 0) → lookM T' a p = (id, 0)
  | [], a, id, _, hl => hl
  | m :: r, a, id, ha, hl => by
    obtain ⟨x, k, hx, hk, hn, hr⟩ := look_cons hl
    obtain ⟨y, hy, hyk, hyn⟩ := h a x m k ha hx hk hn
    unfold lookM
    rw [hy]
    simp only
    rw [if_pos hyk, hyn]
    exact lookM_mono0 hT h r k id (hT.leads a x hx _ (aget_mem hn)).2 hr
theorem amod_look {T : TrM} {f : Int} {g : ItM → ItM} (hg : ∀ x : ItM, (g x).kind = x.kind ∧ (g x).names = x.names) {p : List Nm} {a id : Int} (h : lookM T a p = (id, 0)) : lookM (amod f g T) a p = (id, 0) := by
  refine lookM_mono (fun b x n k hx hk hn => ?_) p a id h
  rw [aget_amod]
  by_cases hb : b = f
  · rw [if_pos hb, hx]
    exact ⟨g x, rfl, (hg x).1.trans hk, by rw [(hg x).2]; exact hn⟩
  · rw [if_neg hb]
    exact ⟨x, hx, hk, hn⟩
theorem setName_look {T : TrM} {d f : Int} {m : Nm} (hm : aget m (namesM T d) = none) {p : List Nm} {a id : Int} (h : lookM T a p = (id, 0)) : lookM (setName T d m f) a p = (id, 0) := by
  refine lookM_mono (fun b x n k hx hk hn => ?_) p a id h
  unfold setName
  rw [aget_amod]
  by_cases hb : b = d
  · rw [if_pos hb, hx]
    refine ⟨_, rfl, hk, ?_⟩
    simp only
    rw [aget_aput]
    by_cases hnm : n = m
    · rw [← hb, namesM_of hx, ← hnm, hn] at hm
      cases hm
    · rw [if_neg hnm]; exact hn
  · rw [if_neg hb]
    exact ⟨x, hx, hk, hn⟩
theorem last_split {q : List Nm} (hq : q ≠ []) : q = q.dropLast ++ [q.getLastD []] := by
  obtain ⟨q1, n, rfl⟩ : ∃ q1 n, q = q1 ++ [n] := ⟨_, _, (List.dropLast_concat_getLast hq).symm⟩
  simp [List.getLastD_eq_getLast?]
/-- The file that is made. -/
def fileX (n : Int) (closed : Bool) (b : List UInt8) : ItM := ⟨1, n, 0, closed, b, []⟩
def mk1 (T : TrM) (f : Int) : TrM := setName (aput ilt f (freshM 1) T) 0 nmNew f
section
variable {T : TrM} {f : Int}
theorem mk1_there (hO : Oky T) (hf : aget f T = none) : aget f (mk1 T f) = some (fileX 1 false []) ∧ lookM (mk1 T f) 0 [nmNew] = (f, 0) ∧ f ≠ 0 := by
  obtain ⟨x, hx, hk⟩ := kindM_some hO.1.1.root
  have h0 : f ≠ 0 := fun e => by rw [e, hx] at hf; cases hf
  refine ⟨?_, ?_, h0⟩
  · unfold mk1 setName
    rw [aget_amod, if_neg h0, aget_aput, if_pos rfl]
    rfl
  · unfold lookM
    have h1 : aget 0 (mk1 T f) = some { x with names := aput bytesBefore nmNew f x.names } := by
      unfold mk1 setName
      rw [aget_amod, if_pos rfl, aget_aput, if_neg (Ne.symm h0), hx]
      rfl
    rw [h1]
    simp only
    rw [if_pos hk, aget_aput, if_pos rfl]
    rfl
theorem mk1_make (hO : Oky T) (h : T.length < 64) {f : Nat} (hf : freeM T = f) : makeM T [nmNew] 1 = (((f : Int), 0), mk1 T f) := by
  have he : makeE T [nmNew] 1 = 0 := by
    rw [mk_one hO (by decide) (by decide) (.inl rfl)]
    exact if_neg (by omega)
  unfold makeM makeOk
  rw [he, if_pos rfl, place_one hO.1.1, hf]
  rfl
theorem mk1_full (hO : Oky T) (h : 64 ≤ T.length) : makeM T [nmNew] 1 = ((0, 4), T) := by
  have he : makeE T [nmNew] 1 = 4 := by
    rw [mk_one hO (by decide) (by decide) (.inl rfl)]
    exact if_pos h
  unfold makeM
  rw [he, if_neg (by simp)]
theorem lk_append {d : List UInt8} (h : aget f T = some (fileX 1 false [])) (hl : lookM T 0 [nmNew] = (f, 0)) (hd : d.length ≤ 200) :
    (appendM T f d).1 = 0 ∧ aget f (appendM T f d).2 = some (fileX 1 false d) ∧ lookM (appendM T f d).2 0 [nmNew] = (f, 0) := by
  have he : appendE T f d = 0 := by
    unfold appendE
    rw [h]
    change (if (1 : Int) = 2 then (22 : Int) else if false = true then 27 else if 4096 < ([] : List UInt8).length + d.length then 15 else 0) = 0
    rw [if_neg (by decide), if_neg (by simp), if_neg (by simp; omega)]
  unfold appendM
  rw [he, if_pos rfl]
  refine ⟨rfl, ?_, amod_look (g := fun x => { x with b := x.b ++ d }) (fun x => ⟨rfl, rfl⟩) hl⟩
  rw [aget_amod, if_pos rfl, h]
  simp [fileX]
theorem lk_seal {d : List UInt8} (h : aget f T = some (fileX 1 false d)) (hl : lookM T 0 [nmNew] = (f, 0)) :
    (sealM T f 0).1 = 0 ∧ aget f (sealM T f 0).2 = some (fileX 1 true d) ∧ lookM (sealM T f 0).2 0 [nmNew] = (f, 0) := by
  have he : sealE T f 0 = 0 := by
    unfold sealE
    rw [h]
    change (if (1 : Int) = 2 then (22 : Int) else if false = true then 27 else if (1099511627776 : Int) < 0 then 1 else 0) = 0
    rw [if_neg (by decide), if_neg (by simp), if_neg (by decide)]
  unfold sealM
  rw [he, if_pos rfl]
  have ha : aget f (amod f (fun x => { x with closed := true, til := 0 }) T) = some (fileX 1 true d) := by
    rw [aget_amod, if_pos rfl, h]
    rfl
  have hs : settleM (amod f (fun x => { x with closed := true, til := 0 }) T) f = amod f (fun x => { x with closed := true, til := 0 }) T := by
    unfold settleM
    rw [ha]
    change (if (1 : Int) = 0 ∧ true = true then _ else _) = _
    rw [if_neg (by decide)]
  rw [hs]
  exact ⟨rfl, ha, amod_look (g := fun x => { x with closed := true, til := 0 }) (fun x => ⟨rfl, rfl⟩) hl⟩
/-- A link, where there may be one. -/
theorem lk_link {d : List UInt8} {q : List Nm} (hO : Okay T) (h : aget f T = some (fileX 1 true d)) (hl : lookM T 0 [nmNew] = (f, 0)) (he : linkE T [nmNew] q = 0) :
    aget f (linkM T [nmNew] q).2 = some (fileX 2 true d) ∧ lookM (linkM T [nmNew] q).2 0 [nmNew] = (f, 0) ∧ lookM (linkM T [nmNew] q).2 0 q = (f, 0) ∧ q ≠ [nmNew] ∧ fineL q = 0 := by
  unfold linkM
  rw [he, if_pos rfl]
  unfold linkE at he
  split at he
  · rename_i h1; exact absurd he h1
  rename_i h1
  split at he
  · rename_i h2; exact absurd he h2
  split at he
  · cases he
  split at he
  · rename_i h2; exact absurd he h2
  rename_i hp
  split at he
  · cases he
  rename_i hn
  have hn' : aget (placeM T q).2.1 (namesM T (placeM T q).1) = none := by simpa using hn
  clear he hn
  have hfq : fineL q = 0 := by
    unfold fine2 at h1
    rw [show fineL [nmNew] = 0 by decide, if_neg (by simp)] at h1
    simpa using h1
  have hp' : (placeM T q).2.2 = 0 := by simpa using hp
  unfold placeM at hp' hn'
  by_cases hq : q = []
  · rw [if_pos hq] at hp'; cases hp'
  rw [if_neg hq] at hp' hn'
  by_cases hlk : (lookM T 0 q.dropLast).2 ≠ 0
  · rw [if_pos hlk] at hp'; exact absurd hp' hlk
  rw [if_neg hlk] at hp' hn'
  by_cases hkd : kindM T (lookM T 0 q.dropLast).1 = 2
  · rw [if_pos hkd] at hp' hn'
    simp only at hn'
    have hpl : placeM T q = ((lookM T 0 q.dropLast).1, q.getLastD [], 0) := by
      unfold placeM
      rw [if_neg hq, if_neg hlk, if_pos hkd]
    obtain ⟨D, hD⟩ : ∃ D, D = (lookM T 0 q.dropLast).1 := ⟨_, rfl⟩
    obtain ⟨m, hm⟩ : ∃ m, m = q.getLastD [] := ⟨_, rfl⟩
    rw [← hD] at hkd hn' hpl
    rw [← hm] at hn' hpl
    have hlD : lookM T 0 q.dropLast = (D, 0) := Prod.ext hD.symm (by simpa using hlk)
    have hqe : q = q.dropLast ++ [m] := by
      rw [hm]
      exact last_split hq
    obtain ⟨z, hz, hzk⟩ := kindM_some hkd
    have hfD : f ≠ D := fun e => by
      rw [← e, h] at hz
      cases hz
      exact absurd hzk (by simp [fileX])
    have hset : ∀ {p : List Nm} {a id : Int}, lookM T a p = (id, 0) → lookM (linkOk T [nmNew] q) a p = (id, 0) := fun hh => by
      unfold linkOk
      rw [hpl, hl]
      exact amod_look (g := fun x => { x with links := x.links + 1 }) (fun x => ⟨rfl, rfl⟩) (setName_look hn' hh)
    have hagD : aget D (linkOk T [nmNew] q) = some { z with names := aput bytesBefore m f z.names } := by
      unfold linkOk setName
      rw [hpl, hl]
      simp only
      rw [aget_amod, if_neg (Ne.symm hfD), aget_amod, if_pos rfl, hz]
      rfl
    refine ⟨?_, hset hl, ?_, fun e => ?_, hfq⟩
    · unfold linkOk setName
      rw [hpl, hl]
      simp only
      rw [aget_amod, if_pos rfl, aget_amod, if_neg hfD, h]
      rfl
    · have hgoal : lookM (linkOk T [nmNew] q) 0 (q.dropLast ++ [m]) = (f, 0) := by
        rw [lookM_append, hset hlD, if_pos rfl]
        unfold lookM
        rw [hagD]
        simp only
        rw [if_pos hzk, aget_aput, if_pos rfl]
        rfl
      rw [← hqe] at hgoal
      exact hgoal
    · rw [e] at hD hm
      have hD0 : D = 0 := hD
      have hmn : m = nmNew := hm
      obtain ⟨y, k, hy, _, hk2, _⟩ := look_cons hl
      rw [hD0, hmn, namesM_of hy, hk2] at hn'
      cases hn'
  · rw [if_neg hkd] at hp'; cases hp'
theorem lk_read {n : Int} {c : Bool} {d : List UInt8} (h : aget f T = some (fileX n c d)) (hd : d.length ≤ 200) : readE T f 0 4096 = 0 ∧ readB T f 0 4096 = d := by
  unfold readE readB
  rw [h]
  refine ⟨rfl, ?_⟩
  change partB d 0 4096 = d
  unfold partB
  rw [if_neg (by decide)]
  simp only [Int.toNat_zero, List.drop_zero]
  exact List.take_of_length_le (by have : (4096 : Int).toNat = 4096 := rfl; omega)
theorem lookE_new {id : Int} (h : lookM T 0 [nmNew] = (id, 0)) : lookE T [nmNew] = (id, 0) := by
  unfold lookE
  rw [show fineL [nmNew] = 0 by decide, if_neg (by simp)]
  exact h
theorem lookE_fine {q : List Nm} {id : Int} (hf : fineL q = 0) (h : lookM T 0 q = (id, 0)) : lookE T q = (id, 0) := by
  unfold lookE
  rw [hf, if_neg (by simp)]
  exact h
/-- The one name goes. -/
theorem lk_unlink1 {d : List UInt8} {q : List Nm} (hT : OkM T) (h : aget f T = some (fileX 2 true d)) (hl : lookM T 0 [nmNew] = (f, 0)) (hq : lookM T 0 q = (f, 0)) (hne : q ≠ [nmNew]) (h0 : f ≠ 0) :
    (unlinkM T [nmNew]).1 = 0 ∧ aget f (unlinkM T [nmNew]).2 = some (fileX 1 true d) ∧ lookM (unlinkM T [nmNew]).2 0 q = (f, 0) ∧ lookE (unlinkM T [nmNew]).2 [nmNew] = (0, 20) := by
  have hkf : kindM T f = 1 := kindM_of h
  have he : unlinkE T [nmNew] = 0 := by
    unfold unlinkE
    rw [lookE_new hl, if_neg (by simp), hl]
    simp only
    rw [hkf, if_neg (by decide)]
  obtain ⟨x, k0, hx, hxk, hxn, hk0⟩ := look_cons hl
  have hk0f : k0 = f := congrArg Prod.fst hk0
  obtain ⟨T5, hT5⟩ : ∃ T5, T5 = amod f (fun x => { x with links := x.links - 1 }) (cutName T 0 nmNew) := ⟨_, rfl⟩
  have a0 : aget 0 T5 = some { x with names := adel nmNew x.names } := by
    rw [hT5, aget_amod, if_neg (Ne.symm h0)]
    unfold cutName
    rw [aget_amod, if_pos rfl, hx]
    rfl
  have af : aget f T5 = some (fileX 1 true d) := by
    rw [hT5, aget_amod, if_pos rfl]
    unfold cutName
    rw [aget_amod, if_neg h0, h]
    rfl
  have ak : ∀ a, a ≠ 0 → a ≠ f → aget a T5 = aget a T := fun a h1 h2 => by
    rw [hT5, aget_amod, if_neg h2]
    unfold cutName
    rw [aget_amod, if_neg h1]
  have hU : (unlinkM T [nmNew]).2 = T5 := by
    unfold unlinkM
    rw [he, if_pos rfl]
    unfold unlinkOk
    rw [place_one hT, hl]
    simp only
    rw [← hT5]
    unfold settleM
    rw [af]
    change (if (1 : Int) = 0 ∧ true = true then _ else _) = _
    rw [if_neg (by decide)]
  rw [hU]
  refine ⟨by unfold unlinkM; rw [he], af, ?_, ?_⟩
  · cases q with
    | nil => exact absurd (congrArg Prod.fst hq).symm h0
    | cons m r =>
      obtain ⟨y, k, hy, hyk, hn, hr⟩ := look_cons hq
      rw [hx] at hy
      cases hy
      have hm : m ≠ nmNew := fun e => by
        rw [e, hxn, hk0f] at hn
        cases hn
        cases r with
        | nil => exact hne (by rw [e])
        | cons m2 r2 =>
          obtain ⟨z, _, hz, hzk, _, _⟩ := look_cons hr
          rw [h] at hz
          cases hz
          exact absurd hzk (by simp [fileX])
      unfold lookM
      rw [a0]
      simp only
      rw [if_pos hxk, aget_adel, if_neg hm, hn]
      refine lookM_mono0 hT (fun a z n j ha hz hzk hzn => ?_) r k f (hT.leads 0 x hx _ (aget_mem hn)).2 hr
      have haf : a ≠ f := fun e => by
        rw [e, h] at hz
        cases hz
        exact absurd hzk (by simp [fileX])
      exact ⟨z, by rw [ak a ha haf]; exact hz, hzk, hzn⟩
  · unfold lookE
    rw [show fineL [nmNew] = 0 by decide, if_neg (by simp)]
    unfold lookM
    rw [a0]
    simp only
    rw [if_pos hxk, aget_adel, if_pos rfl]
/-- The last one. -/
theorem lk_unlink2 {d : List UInt8} {q : List Nm} (h : aget f T = some (fileX 1 true d)) (hf : fineL q = 0) (hq : lookM T 0 q = (f, 0)) (h0 : f ≠ 0) : (unlinkM T q).1 = 0 ∧ aget f (unlinkM T q).2 = none := by
  have hkf : kindM T f = 1 := kindM_of h
  have he : unlinkE T q = 0 := by
    unfold unlinkE
    rw [lookE_fine hf hq, if_neg (by simp), hq]
    simp only
    rw [hkf, if_neg (by decide)]
  have hqn : q ≠ [] := fun e => by
    rw [e] at hq
    exact h0 (congrArg Prod.fst hq).symm
  obtain ⟨D, z, n, hpl, _, hz, hzk, _, _, _⟩ := place_of_look hq hqn
  have hfD : f ≠ D := fun e => by
    rw [← e, h] at hz
    cases hz
    exact absurd hzk (by simp [fileX])
  refine ⟨by unfold unlinkM; rw [he], ?_⟩
  unfold unlinkM
  rw [he, if_pos rfl]
  unfold unlinkOk
  rw [hpl, hq]
  simp only
  have af : aget f (amod f (fun x => { x with links := x.links - 1 }) (cutName T D n)) = some (fileX 0 true d) := by
    rw [aget_amod, if_pos rfl]
    unfold cutName
    rw [aget_amod, if_neg hfD, h]
    rfl
  unfold settleM
  rw [af]
  change aget f (if (0 : Int) = 0 ∧ true = true then _ else _) = _
  rw [if_pos (by decide), aget_adel, if_pos rfl]
end
end Go.Proofs.YtbapdoicejakhaaGreat
namespace Go.Proofs.YtbapdoicejakhaaGreat.treeLinks
open Go.ChangeShapes Go.WideShapes Go.ChangeAt Go.RowKit
set_option linter.unusedVariables false
set_option linter.unusedSimpArgs false

theorem keep_below {fp : Nat → Prop} {a b c : World} (h : Keeps fp a b) (hb : Below b.heap.size b c) : Keeps fp a c :=
  h.trans (Keeps.below hb) fun x hx hx' => by have := h.size; omega
/-- Rows that a tree leaves alone. -/
structure RowsL (W : World) (P : Nat → Prop) (w : World) (r : Nat) (aq : Option Addr) (nq : Nat) (q : List Nm) (a : Option Addr) (m : Nat) (xs : List UInt8) : Prop where
  p : StrsAt P w (some ⟨r, 0, none⟩) 1 ([nmNew].map strOf)
  q : StrsAt P w aq nq (q.map strOf)
  d : RowAt (Old W) w a m (xs.map bv)
theorem RowsL.keep {W w w' : World} {P : Nat → Prop} {r nq m : Nat} {aq a : Option Addr} {q : List Nm} {xs : List UInt8} (h : RowsL W P w r aq nq q a m xs) (hk : Keeps (Wild W P) w w') : RowsL W P w' r aq nq q a m xs :=
  ⟨h.p.kept hk.size fun b hb hbw => hk.block b hbw fun hf => hf.2 hb, h.q.kept hk.size fun b hb hbw => hk.block b hbw fun hf => hf.2 hb, h.d.kept hk.size fun b hb hbw => hk.block b hbw fun hf => by have h1 : b < W.heap.size := hb; have := hf.1; omega⟩
theorem RowsL.grow {W w w' : World} {P : Nat → Prop} {r nq m : Nat} {aq a : Option Addr} {q : List Nm} {xs : List UInt8} (h : RowsL W P w r aq nq q a m xs) (hb : Below w.heap.size w w') : RowsL W P w' r aq nq q a m xs :=
  ⟨h.p.below hb (Nat.le_refl _), h.q.below hb (Nat.le_refl _), h.d.below hb (Nat.le_refl _)⟩
set_option maxRecDepth 100000 in
set_option maxHeartbeats 16000000 in
theorem walk {H : Type} {enc : TypeId × Value → H} (W : World) (base : Nat) (v0 : Value) (d0 : DataW H) (p0 : List MemPlace) (o0 : Value.okWide Tryz.prog W .any base 22 v0) (h0 : DataW.Trod enc Tryz.prog W 0 (fun _ => true) true 22 v0 d0 p0) (l0 : ∀ x ∈ p0, x.block < W.heap.size) (v1 : Value) (d1 : DataW H) (p1 : List MemPlace) (o1 : Value.okWide Tryz.prog W .any base 51 v1) (h1 : DataW.Trod enc Tryz.prog W 0 (fun _ => true) true 51 v1 d1 p1) (l1 : ∀ x ∈ p1, x.block < W.heap.size) (a2 : Int) (w2 : (Lit.int .i64 a2).wf = true) (hsz : (DataW.weightsEach Tryz.prog [22, 51, 3] ([d0, d1, .lit (.int .i64 a2)] : List (DataW H))).all (· ≤ reachBytes) = true) :
    Calls Tryz.prog 7 #[v0, v1, .int .i64 a2] W (Fine W) := by
  obtain ⟨a0, len0, cap0, rfl, hlc0, hA⟩ : ∃ a len cap, v0 = .slice a len cap ∧ len ≤ cap ∧ AsksT W a len := by
    obtain ⟨a0, len, cap, rfl⟩ := okWide_slice Tryz.underlying22 o0
    obtain ⟨fuel, hf⟩ := h0
    refine open_asks11 hf l0 fun n hn => ?_
    have h1 := List.all_eq_true.1 hsz n (List.mem_append_left _ hn)
    simpa using h1
  obtain ⟨a, len, cap, bs, rfl, hlc, hr⟩ : ∃ a len cap bs, v1 = .slice a len cap ∧ len ≤ cap ∧ RowAt (Old W) W a len ((bs : List UInt8).map bv) := by
    obtain ⟨a0, len, cap, rfl⟩ := okWide_slice Tryz.underlying51 o1
    obtain ⟨fuel, hf⟩ := h1
    exact open_bytesT hf l1
  have hlm := hr.small
  have HPL := Lib.hid (played_any a0 len0 cap0 hA (Below.refl W.heap.size W))
  have hcut : ∀ w, Calls Tryz.prog 45 #[.slice a len cap, .int .i64 200] w fun e w' => e = .returned (.slice a (min len 200) cap) ∧ w = w' := fun w => cut_any a len cap 200 hlc (by omega) hlm w
  have HCUT := Lib.hid hcut
  clear hcut
  have HX : Hid (RowAt (Old W) W a (min len 200) ((bs.take 200).map bv)) := by
    have := hr.take 200
    rw [← List.map_take] at this
    exact this
  have hxl : (bs.take 200).length ≤ 200 := by rw [List.length_take]; omega
  generalize bs.take 200 = xs at HX hxl
  obtain ⟨m, hm⟩ : ∃ m, m = min len 200 := ⟨_, rfl⟩
  have hm2 : m ≤ 200 := by omega
  have hmc : m ≤ cap := by omega
  rw [← hm] at HX HCUT
  have HNK := Lib.hid (fun w => names_any a2 w2 w)
  have hq3 := namesL_small a2
  obtain ⟨q, hq⟩ : ∃ q, q = namesL a2 := ⟨_, rfl⟩
  rw [← hq] at HNK hq3
  have HXL := Lib.hid hxl
  clear o0 h0 l0 o1 h1 l1 hsz hlc0 hA w2 hr hlm hm hlc hxl hq
  go_enter Tryz.func7, Tryz.ntmps7
  go_wp2_with fail
  (with_reducible refine HPL.out.mono ?_)
  rintro e w1 ⟨t, r, rfl, T, ⟨P, F, hBP⟩, hb1⟩
  have HT := Lib.hid hBP.tree
  have HO := Lib.hid hBP.okay
  have HB1 := Lib.hid hBP.tree.below
  clear hBP hb1 HPL
  go_wp2_with fail
  (with_reducible refine (HCUT.out _).mono ?_)
  rintro e w2 ⟨rfl, rfl⟩
  go_wp2_with fail
  (with_reducible refine (HNK.out _).mono ?_)
  rintro e w3 ⟨aq, cq, rfl, hcq, hsq, hb3⟩
  have hwa := wall w1 (.cells #[.string ⟨#[110, 101, 119]⟩] 9)
  have hb13 : Below w1.heap.size w1 w3 := hwa.trans (hb3.mono hwa.size)
  have hsa : (w1.alloc (.cells #[.string ⟨#[110, 101, 119]⟩] 9)).heap.size = w1.heap.size + 1 := by simp
  have hs3 := hb3.size
  have hT3 := HT.out.shield hb13
  obtain ⟨P3, hP3⟩ : ∃ P3, P3 = fun x => P x ∨ (w1.heap.size ≤ x ∧ x < w3.heap.size) := ⟨_, rfl⟩
  rw [← hP3] at hT3
  have hR3 : RowsL W P3 w3 w1.heap.size aq q.length q a m xs := by
    refine ⟨?_, hsq.mono fun b hb => by rw [hP3]; exact .inr (by omega), HX.out.below hT3.below (Nat.le_refl _)⟩
    have h1 := strs_lit (w := w1) (vs := [.string ⟨#[110, 101, 119]⟩]) (ls := [nmNew]) 9 rfl rfl (by simp) (by simp [nmNew])
    exact (h1.below hb3 (Nat.le_refl _)).mono fun b hb => by rw [hP3]; exact .inr (by omega)
  have HT3 := Lib.hid hT3
  have HR3 := Lib.hid hR3
  have hlen := HO.out.1.1.len
  obtain ⟨f, hf0, hf1, hf2, hfn, hfs⟩ := HO.out.1.1.free
  clear hfs
  have hf65 : f ≤ 65 := by omega
  have hiw : (Lit.int .i64 (f : Int)).wf = true := by simp [Lit.wf, IntKind.min, IntKind.max, IntKind.signed, IntKind.bits]; omega
  have HIW := Lib.hid hiw
  have HFN := Lib.hid hfn
  have HF0 := Lib.hid hf0
  have HMK := Lib.hid (in_make hT3 (some ⟨w1.heap.size, 0, none⟩) 1 1 [nmNew] 1 hR3.p (Nat.le_refl _) (by omega))
  clear hf0 hfn hiw hsq hb3 hwa hb13 hsa hT3 hR3 HB1 HCUT HNK HX
  by_cases h64 : 64 ≤ T.length
  · rw [mk1_full HO.out h64] at HMK
    clear h64
    go_wp2_with fail
    (with_reducible refine HMK.out.mono ?_)
    rintro e w4 ⟨rfl, hT4, hK4⟩
    have HB4 := Lib.hid hT4.below
    clear hT4 hK4
    go_wp2_with fail
    (with_reducible refine (known11_any _).mono ?_)
    rintro e w5 ⟨rfl, hb5⟩
    have HB5 := Lib.hid (HB4.out.trans (hb5.mono HB4.out.size))
    clear hb5
    go_wp2_with fail
    go_ret
    exact ⟨rfl, HB5.out⟩
  · rw [mk1_make HO.out (by omega) HF0.out] at HMK
    obtain ⟨hx1, hl1, hff⟩ := mk1_there HO.out HFN.out
    have hok1 := (HO.out.1.makeM [nmNew] 1)
    rw [mk1_make HO.out (by omega) HF0.out] at hok1
    generalize mk1 T (f : Int) = T1 at HMK hx1 hl1 hok1
    have HX1 := Lib.hid hx1
    have HL1 := Lib.hid hl1
    have HO1 := Lib.hid hok1
    have HFF := Lib.hid hff
    clear h64 hx1 hl1 hok1 hff hlen hf1 hf2
    go_wp2_with fail
    (with_reducible refine HMK.out.mono ?_)
    rintro e w4 ⟨rfl, hT4, hK4⟩
    have HR4 := Lib.hid (HR3.out.keep hK4)
    obtain ⟨e4, hx2, hl2⟩ := lk_append HX1.out HL1.out HXL.out
    have hok2 := HO1.out.appendM (f : Int) xs
    have hap := in_append hT4 (f : Int) a m cap xs HIW.out HR4.out.d (by omega)
    rw [e4] at hap
    generalize (appendM T1 (f : Int) xs).2 = T2 at hap hx2 hl2 hok2
    have HAP := Lib.hid hap
    have HX2 := Lib.hid hx2
    have HL2 := Lib.hid hl2
    have HO2 := Lib.hid hok2
    clear e4 hx2 hl2 hok2 hap hT4 hK4 HMK HR3
    go_wp2_with fail
    (with_reducible refine HAP.out.mono ?_)
    rintro e w5 ⟨rfl, hT5, hK5⟩
    have HR5 := Lib.hid (HR4.out.keep hK5)
    obtain ⟨e5, hx3, hl3⟩ := lk_seal HX2.out HL2.out
    have hok3 := HO2.out.sealM (f : Int) 0 (by omega)
    have hse := in_seal hT5 (f : Int) 0 HIW.out (by omega) (by omega)
    rw [e5] at hse
    generalize (sealM T2 (f : Int) 0).2 = T3 at hse hx3 hl3 hok3
    have HSE := Lib.hid hse
    have HX3 := Lib.hid hx3
    have HL3 := Lib.hid hl3
    have HO3 := Lib.hid hok3
    clear e5 hx3 hl3 hok3 hse hT5 hK5 HAP HR4
    go_wp2_with fail
    (with_reducible refine HSE.out.mono ?_)
    rintro e w6 ⟨rfl, hT6, hK6⟩
    have HR6 := Lib.hid (HR5.out.keep hK6)
    have hli := in_link hT6 (some ⟨w1.heap.size, 0, none⟩) 1 1 [nmNew] aq q.length cq q HR6.out.p HR6.out.q hcq (by omega)
    have e6 : (linkM T3 [nmNew] q).1 = linkE T3 [nmNew] q := rfl
    rw [e6] at hli
    by_cases hle : linkE T3 [nmNew] q = 0
    · rw [hle] at hli
      obtain ⟨hx4, hl4, hq4, hqn, hfq⟩ := lk_link HO3.out HX3.out HL3.out hle
      have hok4 := HO3.out.linkM [nmNew] q
      generalize (linkM T3 [nmNew] q).2 = T4 at hli hx4 hl4 hq4 hok4
      have HLI := Lib.hid hli
      have HX4 := Lib.hid hx4
      have HL4 := Lib.hid hl4
      have HQ4 := Lib.hid hq4
      have HO4 := Lib.hid hok4
      have HQN := Lib.hid hqn
      have HFQ := Lib.hid hfq
      clear HSE HR5 hT6 hK6 e6 hle hli hx4 hl4 hq4 hok4 hqn hfq
      go_wp2_with fail
      (with_reducible refine HLI.out.mono ?_)
      rintro e w7 ⟨rfl, hT7, hK7⟩
      have HR7 := Lib.hid (HR6.out.keep hK7)
      have HT7 := Lib.hid hT7
      have hlk := in_look hT7 aq q.length cq q HR7.out.q
      rw [lookE_fine HFQ.out HQ4.out] at hlk
      have HLK := Lib.hid hlk
      clear hT7 hK7 hlk HLI HR6
      go_wp2_with fail
      (with_reducible refine HLK.out.mono ?_)
      rintro e w8 ⟨rfl, hb8⟩
      have HT8 := Lib.hid (HT7.out.grow hb8)
      have HR8 := Lib.hid (HR7.out.grow hb8)
      have hnd := in_node HT8.out (f : Int) HIW.out
      have hnode : nodeM T4 (f : Int) = .agg #[.int .i64 (f : Int), .int .i64 1, .int .i64 2, .int .i64 xs.length, .int .u64 0, .bool true] := by unfold nodeM; rw [HX4.out]; rfl
      rw [hnode, HX4.out] at hnd
      have HND := Lib.hid hnd
      clear hb8 hnd hnode HLK HR7 HT7
      go_wp2_with fail
      (with_reducible refine HND.out.mono ?_)
      rintro e w9 ⟨rfl, hb9⟩
      have hb9' := hb9.trans ((wall w9 (.cells #[.int .i64 (f : Int), .int .i64 1, .int .i64 2, .int .i64 xs.length, .int .u64 0, .bool true] 29)).mono hb9.size)
      have HT9 := Lib.hid (HT8.out.grow hb9')
      have HR9 := Lib.hid (HR8.out.grow hb9')
      have hrd := in_read HT9.out (f : Int) 0 4096 HIW.out (by decide) (by decide)
      rw [(lk_read HX4.out HXL.out).1, (lk_read HX4.out HXL.out).2] at hrd
      have HRD := Lib.hid hrd
      clear hb9 hb9' hrd HND HR8 HT8
      go_wp2_with fail
      (with_reducible refine HRD.out.mono ?_)
      rintro e wa ⟨a5, n5, c5, rfl, hn5, hr5, hba⟩
      have HTa := Lib.hid (HT9.out.grow hba)
      have HRa := Lib.hid (HR9.out.grow hba)
      have z2 : wa.cell? ⟨w9.heap.size, 2, none⟩ = some (.int .i64 2) := (hba.cell (p := ⟨w9.heap.size, 2, none⟩) (by simp)).trans (item_block (MapKept.heap_alloc w9 _).1 2)
      have hln := allP_links HO4.out HX4.out
      have HLN : Hid ((allP T4 (f : Int)).length = 2) := by
        have h9 : ((allP T4 (f : Int)).length : Int) = 2 := hln
        show (allP T4 (f : Int)).length = 2
        omega
      have HNM := Lib.hid (in_names HTa.out HO4.out (f : Int))
      have HR5 := Lib.hid hr5
      clear hba hr5 hln HRD HR9 HT9
      go_wp2_with fail
      (with_reducible refine HNM.out.mono ?_)
      rintro e wb ⟨a6, c6, vals, l, rfl, hlc6, hp6, _, _, hbb⟩
      have hl2 : l.length = 2 := by rw [hp6.length_eq]; exact HLN.out
      rw [hl2]
      have HTb := Lib.hid (HTa.out.grow hbb)
      have HRb := Lib.hid (HRa.out.grow hbb)
      have hcv1 := conv_row (c := c5) (HR5.out.below hbb (Nat.le_refl _))
      have hcv2 := conv_row (c := cap) HRb.out.d
      obtain ⟨e5, hx5, hq5, hn5'⟩ := lk_unlink1 HO4.out.1 HX4.out HL4.out HQ4.out HQN.out HFF.out
      have hun := in_unlink HTb.out (some ⟨w1.heap.size, 0, none⟩) 1 1 [nmNew] HRb.out.p (Nat.le_refl _) (by omega)
      rw [e5] at hun
      generalize (unlinkM T4 [nmNew]).2 = T5 at hun hx5 hq5 hn5'
      have HUN := Lib.hid hun
      have HX5 := Lib.hid hx5
      have HQ5 := Lib.hid hq5
      have HN5 := Lib.hid hn5'
      clear hl2 hp6 hlc6 hbb hun hx5 hq5 hn5' HNM HRa HTa HR5 e5
      go_wp2_with fail
      (with_reducible refine HUN.out.mono ?_)
      rintro e wc ⟨rfl, hTc, hKc⟩
      have HTc := Lib.hid hTc
      have HRc := Lib.hid (HRb.out.keep hKc)
      have hrd2 := in_read hTc (f : Int) 0 4096 HIW.out (by decide) (by decide)
      rw [(lk_read HX5.out HXL.out).1, (lk_read HX5.out HXL.out).2] at hrd2
      have HRD2 := Lib.hid hrd2
      clear hTc hKc hrd2 HUN HRb HTb hcv1 hcv2 z2
      go_wp2_with fail
      (with_reducible refine HRD2.out.mono ?_)
      rintro e wd ⟨a7, n7, c7, rfl, hn7, hr7, hbd⟩
      have HTd := Lib.hid (HTc.out.grow hbd)
      have HRd := Lib.hid (HRc.out.grow hbd)
      have hlk2 := in_look HTd.out (some ⟨w1.heap.size, 0, none⟩) 1 1 [nmNew] HRd.out.p
      rw [HN5.out] at hlk2
      have HLK2 := Lib.hid hlk2
      have HR7 := Lib.hid hr7
      clear hbd hr7 hlk2 HRD2 HRc HTc
      go_wp2_with fail
      (with_reducible refine HLK2.out.mono ?_)
      rintro e we ⟨rfl, hbe⟩
      have HTe := Lib.hid (HTd.out.grow hbe)
      have HRe := Lib.hid (HRd.out.grow hbe)
      have hcv1 := conv_row (c := c7) (HR7.out.below hbe (Nat.le_refl _))
      have hcv2 := conv_row (c := cap) HRe.out.d
      obtain ⟨e6, hx6⟩ := lk_unlink2 HX5.out HFQ.out HQ5.out HFF.out
      have hun2 := in_unlink HTe.out aq q.length cq q HRe.out.q hcq (by omega)
      rw [e6] at hun2
      generalize (unlinkM T5 q).2 = T6 at hun2 hx6
      have HUN2 := Lib.hid hun2
      have HX6 := Lib.hid hx6
      clear hbe hun2 hx6 e6 HLK2 HRd HTd HR7
      go_wp2_with fail
      (with_reducible refine HUN2.out.mono ?_)
      rintro e wf ⟨rfl, hTf, hKf⟩
      have hnd2 := in_node hTf (f : Int) HIW.out
      have hnode2 : nodeM T6 (f : Int) = .agg #[.int .i64 0, .int .i64 0, .int .i64 0, .int .i64 0, .int .u64 0, .bool false] := by unfold nodeM; rw [HX6.out]
      rw [hnode2, HX6.out] at hnd2
      have HND2 := Lib.hid hnd2
      have HBf := Lib.hid hTf.below
      clear hTf hKf hnd2 hnode2 HUN2 HRe HTe hcv1 hcv2
      go_wp2_with fail
      (with_reducible refine HND2.out.mono ?_)
      rintro e wg ⟨rfl, hbg⟩
      have HBg := Lib.hid (HBf.out.trans (hbg.mono HBf.out.size))
      have HBh := Lib.hid (HBg.out.trans ((wall wg (.cells #[.int .i64 0, .int .i64 0, .int .i64 0, .int .i64 0, .int .u64 0, .bool false] 29)).mono HBg.out.size))
      clear hbg
      go_wp2_with fail
      (with_reducible refine (known11_any _).mono ?_)
      rintro e wh ⟨rfl, hbh⟩
      have HBi := Lib.hid (HBh.out.trans (hbh.mono HBh.out.size))
      clear hbh
      go_wp2_with fail
      go_ret
      exact ⟨rfl, HBi.out⟩
    · obtain ⟨E, hE⟩ : ∃ E, E = linkE T3 [nmNew] q := ⟨_, rfl⟩
      rw [← hE] at hle hli
      have hne : (E != 0) = true := by simpa using hle
      have HLI := Lib.hid hli
      clear HSE HR5 hT6 hK6 e6 hle hli hE
      go_wp2_with fail
      (with_reducible refine HLI.out.mono ?_)
      rintro e w7 ⟨rfl, hT7, hK7⟩
      have HB7 := Lib.hid hT7.below
      clear hT7 hK7
      go_wp2_with fail
      (with_reducible refine (known11_any _).mono ?_)
      rintro e w8 ⟨rfl, hb8⟩
      have HB8 := Lib.hid (HB7.out.trans (hb8.mono HB7.out.size))
      clear hb8
      go_wp2_with fail
      go_ret
      exact ⟨rfl, HB8.out⟩
end Go.Proofs.YtbapdoicejakhaaGreat.treeLinks
