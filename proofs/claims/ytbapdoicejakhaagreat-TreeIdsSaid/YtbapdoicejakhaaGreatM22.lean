/- The reference's lists, plainly: what becomes of the nodes and of the entries. The reference: Look, place, file, rights. Rows whose elements have more than one cell: append. -/
import Derived.Test.YtbapdoicejakhaaGreatM21
import Derived.Test.YtbapdoicejakhaaGreatM19
namespace Go.Proofs.YtbapdoicejakhaaGreat
open Go.ChangeShapes Go.WideShapes Go.ChangeAt Go.RowKit
set_option linter.unusedVariables false
set_option linter.unusedSimpArgs false

theorem less_is : ∀ a b : List UInt8, Op.bytesLess a b = bytesBefore a b
  | [], [] => rfl
  | [], _ :: _ => rfl
  | _ :: _, [] => rfl
  | x :: r, y :: s => by
    unfold Op.bytesLess bytesBefore
    rw [less_is r s]
/-- Does an entry stand before a name? -/
def entLt (d : Int) (nm : Nm) (e : Ent) : Bool := decide (e.1 < d) || (decide (e.1 = d) && bytesBefore e.2.1 nm)
/-- An entry more, in its place. -/
def addE (E : List Ent) (d : Int) (nm : Nm) (id : Int) : List Ent := E.takeWhile (entLt d nm) ++ (d, nm, id) :: E.dropWhile (entLt d nm)
theorem take_while {α : Type} {p : α → Bool} : ∀ {l : List α} {k : Nat}, (l.take k).all p = true → (∀ x, l[k]? = some x → p x = false) → k ≤ l.length → l.takeWhile p = l.take k ∧ l.dropWhile p = l.drop k
  | [], k, _, _, hk => by simp
  | y :: r, 0, _, h, _ => by
    have := h y (by simp)
    simp [this]
  | y :: r, k + 1, ha, h, hk => by
    simp only [List.take_succ_cons, List.all_cons, Bool.and_eq_true] at ha
    obtain ⟨h1, h2⟩ := take_while (l := r) (k := k) ha.2 (fun x hx => h x (by simpa using hx)) (by simpa using hk)
    simp [ha.1, h1, h2]
section
variable {κ α : Type} {lt : κ → κ → Bool}
theorem ains_eq (L : LtLaws lt) (x : κ × α) : ∀ (l : List (κ × α)), (∀ p ∈ l, p.1 ≠ x.1) → ains lt x l = l.takeWhile (fun y => lt y.1 x.1) ++ x :: l.dropWhile (fun y => lt y.1 x.1) ∨ ¬ ASorted lt l
  | [], _ => .inl (by simp [ains])
  | y :: r, hn => by
    have hy : y.1 ≠ x.1 := hn y (by simp)
    have no : ∀ a b, lt a b = true → lt b a = false := fun a b h => by
      cases h3 : lt b a with
      | false => rfl
      | true => have := L.trans _ _ _ h h3; rw [L.irr] at this; cases this
    by_cases hs : ASorted lt (y :: r)
    · left
      rcases L.tot y.1 x.1 hy with h | h
      · have h2 := no _ _ h
        unfold ains
        rcases ains_eq L x r (fun p hp => hn p (by simp [hp])) with h3 | h3
        · rw [if_neg (by rw [h2]; decide), List.takeWhile_cons, List.dropWhile_cons, if_pos h, if_pos h, h3]
          rfl
        · exact absurd (List.pairwise_cons.1 hs).2 h3
      · have h2 := no _ _ h
        unfold ains
        rw [if_pos h, List.takeWhile_cons, List.dropWhile_cons, if_neg (by rw [h2]; decide), if_neg (by rw [h2]; decide)]
        rfl
    · exact .inr hs
end
theorem addE_pass {d id : Int} {nm : Nm} {A B : List Ent} (h : ∀ e ∈ A, entLt d nm e = true) : addE (A ++ B) d nm id = A ++ addE B d nm id := by
  unfold addE
  rw [List.takeWhile_append_of_pos h, List.dropWhile_append_of_pos h, List.append_assoc]
theorem while_stop {α : Type} {p : α → Bool} : ∀ {B : List α}, (∀ e ∈ B, p e = false) → B.takeWhile p = [] ∧ B.dropWhile p = B
  | [], _ => ⟨rfl, rfl⟩
  | e :: r, h => by
    have := h e (by simp)
    simp [this]
theorem addE_stop {d id : Int} {nm : Nm} {B : List Ent} (h : ∀ e ∈ B, entLt d nm e = false) : ∀ A : List Ent, addE (A ++ B) d nm id = addE A d nm id ++ B
  | [] => by
    obtain ⟨h1, h2⟩ := while_stop h
    unfold addE
    rw [List.nil_append, h1, h2]
    simp
  | e :: r => by
    have ih := addE_stop (id := id) h r
    unfold addE at ih ⊢
    rw [List.cons_append, List.takeWhile_cons, List.dropWhile_cons, List.takeWhile_cons, List.dropWhile_cons]
    cases he : entLt d nm e with
    | true =>
      simp only [if_true, List.cons_append, ih]
    | false => simp
theorem entsM_cons (y : Int × ItM) (r : TrM) : entsM (y :: r) = entsOf y ++ entsM r := by unfold entsM; rw [List.flatMap_cons]
theorem ent_key {T : TrM} {e : Ent} (h : e ∈ entsM T) : ∃ q ∈ T, q.1 = e.1 ∧ e.2 ∈ q.2.names := by
  unfold entsM at h
  obtain ⟨q, hq, he⟩ := List.mem_flatMap.1 h
  obtain ⟨y, hy, rfl⟩ := List.mem_map.1 he
  exact ⟨q, hq, rfl, hy⟩
theorem amod_cons (k : Int) (f : ItM → ItM) (y : Int × ItM) (r : TrM) : amod k f (y :: r) = (if y.1 = k then (y.1, f y.2) else y) :: amod k f r := rfl
theorem amod_miss {k : Int} {f : ItM → ItM} {r : TrM} (h : ∀ q ∈ r, q.1 ≠ k) : amod k f r = r := by
  unfold amod
  conv => rhs; rw [← List.map_id r]
  apply List.map_congr_left
  intro q hq
  rw [if_neg (h q hq)]
  rfl
/-- An entry more is a name that is set. -/
theorem ents_add {d id : Int} {nm : Nm} : ∀ {T : TrM} {x : ItM}, ASorted ilt T → aget d T = some x → ASorted bytesBefore x.names → aget nm x.names = none → addE (entsM T) d nm id = entsM (setName T d nm id)
  | [], x, _, hx, _, _ => by cases hx
  | y :: r, x, hs, hx, hns, hn => by
    obtain ⟨h1, h2⟩ := List.pairwise_cons.1 hs
    rw [aget_cons] at hx
    unfold setName
    rw [amod_cons, entsM_cons, entsM_cons]
    by_cases hy : y.1 = d
    · rw [if_pos hy] at hx
      cases hx
      rw [if_pos hy, amod_miss (fun q hq => by have := h1 q hq; simp at this; omega)]
      rw [addE_stop (fun e he => by
        obtain ⟨q, hq, hk, _⟩ := ent_key he
        have := h1 q hq
        simp only [decide_eq_true_eq] at this
        unfold entLt
        have a1 : ¬ e.1 < d := by omega
        have a2 : ¬ e.1 = d := by omega
        simp [a1, a2])]
      congr 1
      unfold addE entsOf
      have hp : (entLt d nm) ∘ (fun e : Nm × Int => ((y.1, e.1, e.2) : Ent)) = fun e => bytesBefore e.1 nm := by
        funext e
        simp [entLt, hy]
      rw [List.takeWhile_map, List.dropWhile_map, hp]
      have hk : ∀ p ∈ y.2.names, p.1 ≠ nm := aget_none.1 hn
      unfold aput
      rw [adel_none hn]
      rcases ains_eq bbLt (nm, id) y.2.names hk with h3 | h3
      · rw [h3, List.map_append, List.map_cons, hy]
      · exact absurd hns h3
    · rw [if_neg hy] at hx
      rw [if_neg hy]
      have hlt := h1 _ (aget_mem hx)
      simp only [decide_eq_true_eq] at hlt
      rw [addE_pass (fun e he => by
        obtain ⟨z, hz, rfl⟩ := List.mem_map.1 he
        unfold entLt
        simp [hlt])]
      rw [ents_add h2 hx hns hn]
      rfl
theorem cut_filter {α : Type} {p : α → Bool} : ∀ {l : List α} {k : Nat} {x : α}, l[k]? = some x → p x = true → l.Pairwise (fun a b => ¬ (p a = true ∧ p b = true)) → l.take k ++ l.drop (k + 1) = l.filter fun a => !p a
  | [], k, x, h, _, _ => by simp at h
  | y :: r, 0, x, h, hp, hw => by
    simp only [List.getElem?_cons_zero, Option.some.injEq] at h
    subst h
    have h1 := (List.pairwise_cons.1 hw).1
    simp only [List.take_zero, List.nil_append, Nat.zero_add, List.drop_succ_cons, List.drop_zero, List.filter_cons, hp, Bool.not_true]
    rw [if_neg (by decide)]
    symm
    rw [List.filter_eq_self]
    intro a ha
    cases hpa : p a with
    | false => rfl
    | true => exact absurd ⟨hp, hpa⟩ (h1 a ha)
  | y :: r, k + 1, x, h, hp, hw => by
    obtain ⟨h1, h2⟩ := List.pairwise_cons.1 hw
    have hx : r[k]? = some x := by simpa using h
    have hy : p y = false := by
      cases hpy : p y with
      | false => rfl
      | true => exact absurd ⟨hpy, hp⟩ (h1 x (List.mem_of_getElem? hx))
    rw [List.take_succ_cons, List.drop_succ_cons, List.cons_append, cut_filter hx hp h2, List.filter_cons, hy]
    rfl
theorem ents_apart {T : TrM} (hs : ASorted ilt T) (hn : ∀ q ∈ T, ASorted bytesBefore q.2.names) (d : Int) (nm : Nm) : (entsM T).Pairwise fun a b => ¬ (isEnt d nm a = true ∧ isEnt d nm b = true) := by
  unfold entsM
  rw [List.pairwise_flatMap]
  refine ⟨fun q hq => ?_, ?_⟩
  · unfold entsOf
    rw [List.pairwise_map]
    refine List.Pairwise.imp (fun {a b} hab => ?_) (hn q hq)
    simp only [isEnt, decide_eq_true_eq]
    rintro ⟨⟨_, h1⟩, _, h2⟩
    rw [h1, h2, bbLt.irr] at hab
    cases hab
  · refine List.Pairwise.imp (fun {a b} hab => ?_) hs
    intro x hx y hy
    obtain ⟨x', _, rfl⟩ := List.mem_map.1 hx
    obtain ⟨y', _, rfl⟩ := List.mem_map.1 hy
    simp only [isEnt, decide_eq_true_eq]
    rintro ⟨⟨h1, _⟩, h2, _⟩
    simp only [decide_eq_true_eq] at hab
    omega
theorem ents_cut (d : Int) (nm : Nm) : ∀ T : TrM, (entsM T).filter (fun e => !isEnt d nm e) = entsM (cutName T d nm)
  | [] => rfl
  | y :: r => by
    have ih := ents_cut d nm r
    unfold cutName at ih ⊢
    rw [amod_cons, entsM_cons, entsM_cons, List.filter_append, ih]
    congr 1
    unfold entsOf
    rw [List.filter_map]
    by_cases hy : y.1 = d
    · rw [if_pos hy]
      unfold adel
      simp only
      congr 1
      apply List.filter_congr
      intro e _
      simp [isEnt, hy]
    · rw [if_neg hy]
      congr 1
      rw [List.filter_eq_self]
      intro e _
      simp [isEnt, hy]
theorem ents_nil : ∀ {T : TrM}, (∀ q ∈ T, q.2.names = []) → entsM T = []
  | [], _ => rfl
  | y :: r, h => by rw [entsM_cons, ents_nil fun q hq => h q (by simp [hq])]; unfold entsOf; rw [h y (by simp)]; rfl
theorem ents_ains {x : Int × ItM} (hx : x.2.names = []) : ∀ T : TrM, entsM (ains ilt x T) = entsM T
  | [] => by
    unfold ains
    rw [entsM_cons]; unfold entsOf; rw [hx]; rfl
  | y :: r => by
    unfold ains
    split
    · rw [entsM_cons]; unfold entsOf; rw [hx]; rfl
    · rw [entsM_cons, entsM_cons, ents_ains hx r]
theorem ents_new {T : TrM} {f kind : Int} (hf : aget f T = none) : entsM (aput ilt f (freshM kind) T) = entsM T := by
  unfold aput
  rw [adel_none hf]
  exact ents_ains (x := (f, freshM kind)) rfl T
theorem ents_del {id : Int} : ∀ {T : TrM}, (∀ q ∈ T, q.1 = id → q.2.names = []) → entsM (adel id T) = entsM T
  | [], _ => rfl
  | y :: r, h => by
    have ih := ents_del (T := r) (id := id) fun q hq => h q (by simp [hq])
    unfold adel at ih ⊢
    rw [List.filter_cons]
    by_cases hy : y.1 = id
    · have := h y (by simp) hy
      simp only [hy, decide_true, Bool.not_true]
      rw [if_neg (by decide), ih, entsM_cons]
      unfold entsOf
      rw [this]; rfl
    · simp only [hy, decide_false, Bool.not_false, if_true]
      rw [entsM_cons, entsM_cons, ih]
theorem ents_amod {id : Int} {f : ItM → ItM} (hf : ∀ x, (f x).names = x.names) : ∀ T : TrM, entsM (amod id f T) = entsM T
  | [] => rfl
  | y :: r => by
    rw [amod_cons, entsM_cons, entsM_cons, ents_amod hf r]
    congr 1
    by_cases hy : y.1 = id
    · rw [if_pos hy]; unfold entsOf; simp only; rw [hf]
    · rw [if_neg hy]
theorem ents_strip (id : Int) : ∀ T : TrM, entsM (stripM T id) = (entsM T).filter fun e => !decide (e.2.2 = id)
  | [] => rfl
  | y :: r => by
    have : stripM (y :: r) id = (y.1, stripI id y.2) :: stripM r id := rfl
    rw [this, entsM_cons, entsM_cons, List.filter_append, ents_strip id r]
    congr 1
    unfold entsOf stripI
    simp only
    rw [List.filter_map]
    rfl
theorem at_apart {T : TrM} (hs : ASorted ilt T) (id : Int) : T.Pairwise fun a b => ¬ (isAt id a = true ∧ isAt id b = true) := by
  refine List.Pairwise.imp (fun {a b} hab => ?_) hs
  simp only [isAt, decide_eq_true_eq]
  simp only [decide_eq_true_eq] at hab
  omega
theorem del_at {T : TrM} (hs : ASorted ilt T) {k : Nat} {q : Int × ItM} (hq : T[k]? = some q) : T.take k ++ T.drop (k + 1) = adel q.1 T := by
  rw [cut_filter (p := isAt q.1) hq (by simp [isAt]) (at_apart hs q.1)]
  rfl
theorem amod_at {f : ItM → ItM} : ∀ {T : TrM} {k : Nat} {q : Int × ItM}, ASorted ilt T → T[k]? = some q → T.set k (q.1, f q.2) = amod q.1 f T
  | [], k, q, _, h => by simp at h
  | y :: r, 0, q, hs, h => by
    simp only [List.getElem?_cons_zero, Option.some.injEq] at h
    subst h
    obtain ⟨h1, _⟩ := List.pairwise_cons.1 hs
    rw [amod_cons, if_pos rfl, amod_miss (fun p hp => by have := h1 p hp; simp at this; omega)]
    rfl
  | y :: r, k + 1, q, hs, h => by
    obtain ⟨h1, h2⟩ := List.pairwise_cons.1 hs
    have hx : r[k]? = some q := by simpa using h
    have := h1 q (List.mem_of_getElem? hx)
    simp only [decide_eq_true_eq] at this
    rw [amod_cons, if_neg (by omega), ← amod_at h2 hx]
    rfl
/-- A node's cells do not tell its names. -/
theorem nodes_amod {id : Int} {f : ItM → ItM} (hf : ∀ x, nodeC (id, f x) = nodeC (id, x)) : ∀ T : TrM, (amod id f T).flatMap nodeC = T.flatMap nodeC
  | [] => rfl
  | y :: r => by
    rw [amod_cons, List.flatMap_cons, List.flatMap_cons, nodes_amod hf r]
    congr 1
    by_cases hy : y.1 = id
    · rw [if_pos hy, hy, hf, ← hy]
    · rw [if_neg hy]
theorem data_amod {id : Int} {f : ItM → ItM} (hf : ∀ x, (f x).b = x.b) (T : TrM) : (amod id f T).map (fun q => q.2.b) = T.map fun q => q.2.b := by
  unfold amod
  rw [List.map_map]
  apply List.map_congr_left
  intro q _
  by_cases h : q.1 = id <;> simp [h, hf]
theorem nodes_strip (id : Int) (T : TrM) : (stripM T id).flatMap nodeC = T.flatMap nodeC := by
  unfold stripM
  rw [List.flatMap_map]
  rfl
theorem data_strip (id : Int) (T : TrM) : (stripM T id).map (fun q => q.2.b) = T.map fun q => q.2.b := by
  unfold stripM
  rw [List.map_map]
  rfl
theorem data_set {f : ItM → ItM} {T : TrM} {k : Nat} {q : Int × ItM} (hs : ASorted ilt T) (hq : T[k]? = some q) : (amod q.1 f T).map (fun q => q.2.b) = (T.map fun q => q.2.b).set k (f q.2).b := by
  rw [← amod_at hs hq, List.map_set]
/-- A node more, in its place. -/
theorem put_at {T : TrM} (hs : ASorted ilt T) {f : Int} (x : ItM) (hf : aget f T = none) : aput ilt f x T = T.takeWhile (fun q => decide (q.1 < f)) ++ (f, x) :: T.dropWhile fun q => decide (q.1 < f) := by
  unfold aput
  rw [adel_none hf]
  rcases ains_eq iltLaws (f, x) T (aget_none.1 hf) with h | h
  · exact h
  · exact absurd hs h
/-- The entries are few. -/
theorem ents_few {T : TrM} (hT : OkM T) : (entsM T).length ≤ 4096 := by
  have h1 := few_of (fun e : Ent => e.2.2) 64 (T.map (·.1)) (entsM T) (fun e he => by
    obtain ⟨x, hx, hm⟩ := (mem_ents hT.sorted).1 he
    obtain ⟨y, hy⟩ := Option.isSome_iff_exists.1 (hT.leads _ x hx e.2 hm).1
    exact List.mem_map.2 ⟨_, aget_mem hy, rfl⟩) (fun j hj => by
      have hcnt : (entsM T).countP (fun e => decide (e.2.2 = j)) = cntM T j := by
        unfold entsM cntM cn
        rw [List.countP_flatMap]
        congr 1
        apply List.map_congr_left
        intro q _
        unfold entsOf
        simp only [Function.comp_apply, List.countP_map]
        rfl
      rw [hcnt]
      by_cases h0 : j = 0
      · have : (entsM T).countP (fun e => decide (e.2.2 = j)) = 0 := by
          rw [List.countP_eq_zero]
          intro e he
          obtain ⟨x, hx, hm⟩ := (mem_ents hT.sorted).1 he
          have := (hT.leads _ x hx e.2 hm).2
          simp [h0, this]
        omega
      · obtain ⟨q, hq, rfl⟩ := List.mem_map.1 hj
        have hy := aget_of_mem iltLaws hT.sorted hq
        have h2 := hT.counts _ _ hy h0
        have h3 := (hT.each _ _ hy).links
        omega)
  have := hT.len
  rw [List.length_map] at h1
  omega
end Go.Proofs.YtbapdoicejakhaaGreat
namespace Go.Proofs.YtbapdoicejakhaaGreat
open Go.ChangeShapes Go.WideShapes Go.ChangeAt Go.RowKit
set_option linter.unusedVariables false
set_option linter.unusedSimpArgs false

theorem rrights_any {S S' : Nat → Prop} (a : Option Addr) (n c : Nat) (ls : List Nm) (a' : Option Addr) (n' c' : Nat) (ls' : List Nm) (w : World) (hS : StrsAt S w a n (ls.map strOf)) (hS' : StrsAt S' w a' n' (ls'.map strOf)) :
    Calls Tryz.prog 70 #[.slice a n c, .slice a' n' c'] w fun e w' => e = .returned (.int .i64 (fine2 ls ls')) ∧ Below w.heap.size w w' := by
  have H1 := Lib.hid (rright_any a n c ls w hS)
  have H2 := Lib.hid (fun w1 (hb : Below w.heap.size w w1) => rright_any a' n' c' ls' w1 (hS'.below hb (Nat.le_refl _)))
  clear hS hS'
  unfold fine2
  by_cases h0 : fineL ls = 0
  · rw [h0] at H1
    rw [if_neg (by rw [h0]; simp)]
    clear h0
    go_enter Tryz.func70, Tryz.ntmps70
    go_wp2_with fail
    (with_reducible refine H1.out.mono ?_)
    rintro e w1 ⟨rfl, hb1⟩
    have HB1 := Lib.hid hb1
    clear hb1
    go_wp2_with fail
    (with_reducible refine (H2.out w1 HB1.out).mono ?_)
    rintro e w2 ⟨rfl, hb2⟩
    go_wp2_with fail
    go_ret
    exact ⟨rfl, HB1.out.trans (hb2.mono HB1.out.size)⟩
  · rw [if_pos h0]
    have hne : (fineL ls == 0) = false := by simpa using h0
    have hne2 : (fineL ls != 0) = true := by simpa using h0
    clear h0
    go_enter Tryz.func70, Tryz.ntmps70
    go_wp2_with fail
    (with_reducible refine H1.out.mono ?_)
    rintro e w1 ⟨rfl, hb1⟩
    go_wp2_with fail
    go_ret
    exact ⟨rfl, hb1⟩
section
variable {F : Nat → Prop} {r : Nat} {T : TrM}
theorem rLook_any {S : Nat → Prop} (a : Option Addr) (n c : Nat) (ls : List Nm) (w : World) (h : RefAt F w r T) (hT : OkM T) (hE : (entsM T).length ≤ 1000000) (hS : StrsAt S w a n (ls.map strOf)) :
    Calls Tryz.prog 66 #[ptr r, .slice a n c] w fun e w' => e = .returned (.tuple #[.int .i64 (lookE T ls).1, .int .i64 (lookE T ls).2]) ∧ Below w.heap.size w w' := by
  have H1 := Lib.hid (rright_any a n c ls w hS)
  have H2 := Lib.hid (fun w1 (hb : Below w.heap.size w w1) => rlook_any a n c ls w1 (h.below hb (Nat.le_refl _)) hT hE (hS.below hb (Nat.le_refl _)))
  clear hS h hT hE
  unfold lookE
  by_cases h0 : fineL ls = 0
  · rw [h0] at H1
    rw [if_neg (by rw [h0]; simp)]
    clear h0
    go_enter Tryz.func66, Tryz.ntmps66
    go_wp2_with fail
    (with_reducible refine H1.out.mono ?_)
    rintro e w1 ⟨rfl, hb1⟩
    have HB1 := Lib.hid hb1
    clear hb1
    go_wp2_with fail
    (with_reducible refine (H2.out w1 HB1.out).mono ?_)
    rintro e w2 ⟨rfl, hb2⟩
    go_wp2_with fail
    go_ret2
    exact ⟨rfl, HB1.out.trans (hb2.mono HB1.out.size)⟩
  · rw [if_pos h0]
    have hne : (fineL ls == 0) = false := by simpa using h0
    have hne2 : (fineL ls != 0) = true := by simpa using h0
    clear h0
    go_enter Tryz.func66, Tryz.ntmps66
    go_wp2_with fail
    (with_reducible refine H1.out.mono ?_)
    rintro e w1 ⟨rfl, hb1⟩
    go_wp2_with fail
    go_ret2
    exact ⟨rfl, hb1⟩
/-- The place of a file that may be asked. -/
def rfI (T : TrM) (id : Int) : Int := if fileE T id = 0 then idxI (isAt id) T else 0
set_option maxHeartbeats 1000000 in
theorem rfile_any (id : Int) (w : World) (h : RefAt F w r T) (hT : OkP T) : Calls Tryz.prog 76 #[ptr r, .int .i64 id] w fun e w' => e = .returned (.tuple #[.int .i64 (rfI T id), .int .i64 (fileE T id)]) ∧ w = w' := by
  have HR := Lib.hid (rat_any id w h hT.len)
  have hr0 := h.low r h.own
  cases hx : aget id T with
  | none =>
    have e1 : fileE T id = 20 := by unfold fileE; rw [hx]
    have e2 : rfI T id = 0 := by unfold rfI; simp only [e1]; rfl
    rw [idx_none hx] at HR
    rw [e1, e2]
    clear h hx hT e1 e2
    go_enter Tryz.func76, Tryz.ntmps76
    go_wp2_with fail
    (with_reducible refine HR.out.mono ?_)
    rintro e w1 ⟨rfl, rfl⟩
    go_wp2_with fail
    go_ret2
    exact ⟨rfl, rfl⟩
  | some x =>
    obtain ⟨k, hk, hq⟩ := idx_some hT.sorted hx
    rw [hk] at HR
    obtain ⟨b, off, c, hc0, hF, hb, hkl, c0, c1, c2, c3, c4, c5⟩ := h.node hq
    have i0 : (0 : Int) ≤ k := by omega
    have i1 : (k : Int) < T.length := by omega
    have i2 : ¬ (k : Int) < 0 := by omega
    simp only at c0 c1 c2 c3 c4 c5
    by_cases hk2 : x.kind = 2
    · have e1 : fileE T id = 22 := by unfold fileE; rw [hx]; exact if_pos hk2
      have e2 : rfI T id = 0 := by unfold rfI; simp only [e1]; rfl
      rw [e1, e2]
      rw [hk2] at c1
      clear hk2 e1 e2 h hx hk hq hT
      go_enter Tryz.func76, Tryz.ntmps76
      go_wp2_with fail
      (with_reducible refine HR.out.mono ?_)
      rintro e w1 ⟨rfl, rfl⟩
      go_wp2_with fail
      go_ret2
      exact ⟨rfl, rfl⟩
    · have e1 : fileE T id = 0 := by unfold fileE; rw [hx]; exact if_neg hk2
      have e2 : rfI T id = k := by unfold rfI; simp only [e1]; exact hk
      rw [e1, e2]
      have e3 : (x.kind == 2) = false := by simpa using hk2
      clear hk2 e1 e2 h hx hk hq hT
      go_enter Tryz.func76, Tryz.ntmps76
      go_wp2_with fail
      (with_reducible refine HR.out.mono ?_)
      rintro e w1 ⟨rfl, rfl⟩
      go_wp2_with fail
      go_ret2
      exact ⟨rfl, rfl⟩
set_option maxHeartbeats 2000000 in
theorem rplace_any {S : Nat → Prop} (a : Option Addr) (n c : Nat) (ls : List Nm) (w : World) (h : RefAt F w r T) (hT : OkM T) (hE : (entsM T).length ≤ 1000000) (hS : StrsAt S w a n (ls.map strOf)) (hc : n ≤ c) (hn8 : n ≤ 1000000) :
    Calls Tryz.prog 62 #[ptr r, .slice a n c] w fun e w' => e = .returned (.tuple #[.int .i64 (placeM T ls).1, .string (strOf (placeM T ls).2.1), .int .i64 (placeM T ls).2.2]) ∧ Below w.heap.size w w' := by
  have hln : ls.length = n := by have := hS.length; simpa using this
  unfold placeM
  by_cases h0 : ls = []
  · rw [if_pos h0]
    have hn : n = 0 := by rw [← hln, h0]; rfl
    subst hn
    clear h hT hS hE
    go_enter Tryz.func62, Tryz.ntmps62
    go_wp2
    go_ret3
    exact ⟨rfl, Below.refl _ _⟩
  · rw [if_neg h0]
    obtain ⟨j, rfl⟩ : ∃ j, n = j + 1 := ⟨n - 1, by
      have : n ≠ 0 := fun e => h0 (List.eq_nil_of_length_eq_zero (by omega))
      omega⟩
    obtain ⟨b, off, nm, rfl, _, hbw, hx, hsz, hcn⟩ := cell_str hS j (by omega)
    have hdl : (ls.map strOf).take j = ls.dropLast.map strOf := by
      rw [List.dropLast_eq_take, hln, List.map_take]; rfl
    have hnm : ls.getLastD [] = nm := by
      rw [List.getLastD_eq_getLast?, List.getLast?_eq_getElem?, hln, show j + 1 - 1 = j from rfl, hx]; rfl
    have hT1 := hS.take j (by omega)
    rw [hdl] at hT1
    have HLK := Lib.hid (rlook_any _ j c ls.dropLast w h hT hE hT1)
    have HH := Lib.hid (fun w1 (hb : Below w.heap.size w w1) id => rnode_any id w1 (h.below hb (Nat.le_refl _)) hT.toOkP)
    have HTH := Lib.hid (lookM_there hT ls.dropLast 0 (root_there hT))
    have e1 : IntKind.i64.wrap (((j + 1 : Nat) : Int) - 1) = (j : Int) := by rw [show (((j + 1 : Nat) : Int) - 1) = (j : Int) by omega]; exact IntWalk.i64_in _ (by omega)
    have e1' : IntKind.i64.wrap ((j : Int) + 1 - 1) = (j : Int) := by rw [show ((j : Int) + 1 - 1) = (j : Int) by omega]; exact IntWalk.i64_in _ (by omega)
    have i0 : (0 : Int) ≤ j := by omega
    have i1 : (j : Int) < ((j + 1 : Nat) : Int) := by omega
    have i1' : (j : Int) < (j : Int) + 1 := by omega
    have i2 : (((j + 1 : Nat) : Int) == 0) = false := by simp; omega
    have i2' : ((j : Int) + 1 == 0) = false := by simp; omega
    have hjc : j ≤ c := by omega
    rw [hnm]
    clear h hT hE hS hx hsz hdl hnm hT1 hln h0
    obtain ⟨⟨d, e0⟩, hq⟩ : ∃ q, q = lookM T 0 ls.dropLast := ⟨_, rfl⟩
    rw [← hq] at HLK HTH
    rw [← hq]
    clear hq
    simp only at HLK HTH
    simp only
    by_cases he : e0 = 0
    · subst he
      obtain ⟨x, hx⟩ := Option.isSome_iff_exists.1 (HTH.out rfl)
      have hnd : nodeM T d = nodeV d x := by unfold nodeM; rw [hx]
      have hkd := kindM_of hx
      have HHd := Lib.hid (fun w1 hb => HH.out w1 hb d)
      rw [hnd] at HHd
      unfold nodeV at HHd
      rw [if_neg (by simp), hkd]
      clear hnd hkd HH hx HTH
      by_cases hk2 : x.kind = 2
      · rw [if_pos hk2]
        rw [hk2] at HHd
        clear hk2
        go_enter Tryz.func62, Tryz.ntmps62
        go_wp2_with fail
        (with_reducible refine HLK.out.mono ?_)
        rintro e w1 ⟨rfl, hb1⟩
        have HB1 := Lib.hid hb1
        clear hb1
        go_wp2_with fail
        (with_reducible refine (HHd.out w1 HB1.out).mono ?_)
        rintro e w2 ⟨rfl, hb2⟩
        have HB2 := Lib.hid (HB1.out.trans (hb2.mono HB1.out.size))
        clear hb2
        have hs2 := HB2.out.size
        have hc2 : w2.cell? ⟨b, off + j, none⟩ = some (.string (strOf nm)) := by rw [HB2.out.cell (p := ⟨b, off + j, none⟩) hbw]; exact hcn
        have hb2w : b < w2.heap.size := by omega
        go_wp2_with fail
        go_quiet (fail)
        go_wp2_with fail
        go_ret3
        exact ⟨rfl, HB2.out.trans ⟨rfl, rfl, rfl, by simp, fun x hx => Below.heap_alloc _ _ _ (by omega)⟩⟩
      · have e3 : (x.kind == 2) = false := by simpa using hk2
        have e4 : (x.kind != 2) = true := by simpa using hk2
        rw [if_neg hk2]
        clear hk2
        go_enter Tryz.func62, Tryz.ntmps62
        go_wp2_with fail
        (with_reducible refine HLK.out.mono ?_)
        rintro e w1 ⟨rfl, hb1⟩
        have HB1 := Lib.hid hb1
        clear hb1
        go_wp2_with fail
        (with_reducible refine (HHd.out w1 HB1.out).mono ?_)
        rintro e w2 ⟨rfl, hb2⟩
        have HB2 := Lib.hid (HB1.out.trans (hb2.mono HB1.out.size))
        clear hb2
        go_wp2_with fail
        go_ret3
        exact ⟨rfl, HB2.out.trans ((wall w2 _).mono HB2.out.size)⟩
    · rw [if_pos he]
      have hne : (e0 == 0) = false := by simpa using he
      have hne2 : (e0 != 0) = true := by simpa using he
      clear he HH HTH
      go_enter Tryz.func62, Tryz.ntmps62
      go_wp2_with fail
      (with_reducible refine HLK.out.mono ?_)
      rintro e w1 ⟨rfl, hb1⟩
      go_wp2_with fail
      go_ret3
      exact ⟨rfl, hb1⟩
end
end Go.Proofs.YtbapdoicejakhaaGreat
namespace Go.Proofs.YtbapdoicejakhaaGreat
open Go.ChangeShapes Go.WideShapes Go.ChangeAt Go.RowKit
set_option linter.unusedVariables false
set_option linter.unusedSimpArgs false

theorem own_new {w : World} {base g : Nat} {e : TypeId} {k : Nat} (hg : w.heap[g]? = some (.cells #[] e)) (hb : base ≤ g) : w.ownsRow base e k (.slice (some ⟨g, 0, none⟩) 0 0) 0 [] := by
  refine ⟨by simp, .inr ⟨g, 0, #[], rfl, hb, hg, Nat.le_refl _, Nat.zero_le _, by simp, by simp⟩⟩
theorem RowAt.of_ownk {w : World} {base : Nat} {e : TypeId} {k : Nat} {a : Option Addr} {m n c : Nat} {xs : List Value} (h : w.ownsRow base e k (.slice a m c) n xs) (hs : n * k ≤ maxLen) : m = n ∧ n ≤ c ∧ Base a c ∧ RowAt (fun x => base ≤ x ∧ x < w.heap.size) w a (n * k) xs := by
  obtain ⟨h1, h2⟩ := h
  rcases h2 with ⟨h2, rfl⟩ | ⟨g, cap, cur, h2, hg, hcur, h3, h4, h5, h6⟩
  · simp only [Value.slice.injEq] at h2
    obtain ⟨rfl, rfl, rfl⟩ := h2
    have : xs = [] := List.eq_nil_of_length_eq_zero (by omega)
    subst this
    rw [Nat.zero_mul]
    exact ⟨rfl, Nat.le_refl _, Or.inl ⟨rfl, rfl⟩, RowAt.nil _ _ _⟩
  · simp only [Value.slice.injEq] at h2
    obtain ⟨rfl, rfl, rfl⟩ := h2
    have hgw := (Array.getElem?_eq_some_iff.1 hcur).1
    refine ⟨rfl, h3, Or.inr ⟨_, rfl⟩, h1, hs, fun h0 => ⟨g, 0, rfl, ⟨hg, hgw⟩, hgw, fun i hi => ?_⟩⟩
    simp only [World.cell?, hcur, Nat.zero_add]
    rw [← h6, List.getElem?_take, if_pos hi]
    simp
theorem run_append_rows {P : Program} {S : Nat → Prop} {w : World} (base : Nat) (t ty e : TypeId) (i : TypeInfo) (z : Value) (k bytes : Nat) (ht : P.underlying t = some (.slice e)) (hi : P.info? e = some i) (hz : i.zero = some z)
    (hsize : i.size = k) (hby : i.bytes = bytes) (hzs : z.cells.size = k) (hk : 0 < k) (v : Value) (n : Nat) (xs : List Value) (hown : w.ownsRow base e k v n xs)
    (A : Option Addr) (m c : Nat) (news : List Value) (hr : RowAt S w A (m * k) news) (h1 : ∀ u ∈ news, u.oneCell' = true) (h63 : n + m ≤ maxLen) (hbytes : (n + m) * bytes ≤ 140737488355328) (hbase : base ≤ w.heap.size) :
    ∃ A' c' w', (Builtin.append_ #[t, t] ty #[v, .slice A m c]).run P w = .ok (.slice A' (n + m) c') w' ∧ w'.ownsRow base e k (.slice A' (n + m) c') (n + m) (xs ++ news) ∧ w.grownBy w' v.ownBlock ∧
      ((Value.slice A' (n + m) c').ownBlock = v.ownBlock ∨ (Value.slice A' (n + m) c').ownBlock = some w.heap.size) := by
  rcases A with _ | ad
  · have hm : m = 0 := by
      rcases Nat.eq_zero_or_pos m with h0 | h0
      · exact h0
      · obtain ⟨_, _, h, _⟩ := hr.at_ (Nat.mul_pos h0 hk)
        cases h
    subst hm
    have hn : news = [] := List.eq_nil_of_length_eq_zero (by rw [hr.length]; omega)
    subst hn
    obtain ⟨A', c', rfl, _⟩ := own_form hown
    refine ⟨A', c', w, ?_, by simpa using hown, ⟨rfl, rfl, rfl, Nat.le_refl _, fun _ _ _ => rfl⟩, Or.inl rfl⟩
    rcases hown.2 with ⟨h2, rfl⟩ | ⟨g, cap, cur, h2, _, _, hnc, _⟩
    · simp only [Value.slice.injEq] at h2
      obtain ⟨rfl, _, rfl⟩ := h2
      simp [Builtin.append_, run_underlying ht, sizeOf, typeInfo, hi, Builtin.lenOf, Builtin.firstCells]
    · simp only [Value.slice.injEq] at h2
      obtain ⟨rfl, _, rfl⟩ := h2
      simp [Builtin.append_, run_underlying ht, sizeOf, typeInfo, hi, Builtin.lenOf, Builtin.firstCells, hnc, storeCells]
  · obtain ⟨v', w', hr', h2, h3, h4, h5⟩ := run_append_own_at (P := P) w base t ty e i z k bytes ht hi hz hsize hby hzs hk v n xs hown ad m c news hr.length hr.cells h1 h63 hbytes hbase
    obtain ⟨A', c', rfl, _⟩ := own_form h2
    exact ⟨A', c', w', hr', h2, h3, h5⟩
theorem step_append_rows {P : Program} {S : Nat → Prop} {ops : Array Oper} {o : Oper} {a : Act} {w : World} {K : Act → World → Prop} {Q : Exit → Act → World → Prop} {E : Prop} (hgd : o.guard = none) (s x : Operand) (t : TypeId)
    (ho : o.op = .call { callee := .builtin .append, args := #[s, x], argTypes := #[t, t] })
    (base : Nat) (e : TypeId) (i : TypeInfo) (z : Value) (k bytes : Nat) (ht : P.underlying t = some (.slice e)) (hi : P.info? e = some i) (hz : i.zero = some z)
    (hsize : i.size = k) (hby : i.bytes = bytes) (hzs : z.cells.size = k) (hk : 0 < k) (v : Value) (n : Nat) (xs : List Value) (hs : a.eval s = v) (hown : w.ownsRow base e k v n xs)
    (A : Option Addr) (m c : Nat) (news : List Value) (hx : a.eval x = .slice A m c) (hr : RowAt S w A (m * k) news) (h1 : ∀ u ∈ news, u.oneCell' = true) (h63 : n + m ≤ maxLen) (hbytes : (n + m) * bytes ≤ 140737488355328) (hbase : base ≤ w.heap.size)
    (h : ∀ A' c' w', w'.ownsRow base e k (.slice A' (n + m) c') (n + m) (xs ++ news) → Below base w w' → K (a.put o.dst (.slice A' (n + m) c')) w') :
    if Region.wanted o (yielded ops a.tmps) = true then Oper.wp P o a w K Q else E := by
  have hw : Region.wanted o (yielded ops a.tmps) = true := by simp [Region.wanted, hgd]
  rw [if_pos hw]
  obtain ⟨A', c', w', hr, h2, h3, h4⟩ := run_append_rows (P := P) base t o.type e i z k bytes ht hi hz hsize hby hzs hk v n xs hown A m c news hr h1 h63 hbytes hbase
  unfold Oper.wp execOp
  simp only [ho, resolve, invoke, builtin, Sem.run_bind, Sem.run_pure, Result.andThen_ok, List.map_toArray, List.map_cons, List.map_nil, hs, hx, hr]
  exact h A' c' w' h2 ⟨h3.os, h3.tape, h3.output, h3.size, fun b hb => h3.block b (by omega) (fun e => by have := own_block_ge hown b e.symm; omega)⟩
/-- A row that is one's own lies as it lay. -/
theorem own_below {w w' : World} {base : Nat} {e : TypeId} {k : Nat} {v : Value} {n : Nat} {xs : List Value} (h : w.ownsRow base e k v n xs) (hb : Below w.heap.size w w') : w'.ownsRow base e k v n xs := by
  obtain ⟨h1, h2⟩ := h
  refine ⟨h1, ?_⟩
  rcases h2 with h2 | ⟨g, cap, cur, h2, hg, hcur, h3⟩
  · exact .inl h2
  · exact .inr ⟨g, cap, cur, h2, hg, (hb.block g (Array.getElem?_eq_some_iff.1 hcur).1).trans hcur, h3⟩
end Go.Proofs.YtbapdoicejakhaaGreat
