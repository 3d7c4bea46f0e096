/- tree: settle, Seal, Keep. -/
import Derived.Test.YtpgklnhkfgbpgaaGreatDoorM10
namespace Go.Proofs.YtpgklnhkfgbpgaaGreatDoor
open Go.ChangeShapes Go.WideShapes Go.ChangeAt Go.RowKit
set_option linter.unusedVariables false
set_option linter.unusedSimpArgs false

section
variable {g : Nat → Own} {D : Nat → Prop} {p mb : Nat} {ib nb : Int → Nat} {T : TrM}
theorem MapAt.drop_run {P : Program} {K : TypeId} {κ : Type} [DecidableEq κ] {F : KeyFor P K κ} {w : World} {t e : TypeId} (ht : P.underlying t = some (.map K e)) {b : Nat} {l : List (κ × Value)} (hM : MapAt F w b l) (k : κ) (hok : F.ok k) :
    ∃ w', (∀ ty, (Builtin.delete_ #[t, K] ty #[.map (some b), F.val k]).run P w = .ok (.tuple #[]) w') ∧ MapAt F w' b (adel k l) ∧ w.mapTurned w' b := by
  obtain ⟨w', hrun, r1, r2⟩ := World.ownsMap.drop hM F.law ht (F.of k hok) 0
  rw [toD_del] at r1
  exact ⟨w', fun ty => hrun, MapAt.of_owns r1, r2⟩

/-- What settle leaves. -/
def Settled (g : Nat → Own) (D : Nat → Prop) (w : World) (p mb : Nat) (ib nb : Int → Nat) (T' : TrM) (e : Ending) (w' : World) : Prop :=
  e = .returned (.tuple #[]) ∧ TreeAt g D w' p mb ib nb T' ∧ Keeps (fun b => b = mb) w w' ∧ w'.heap.size = w.heap.size
set_option maxRecDepth 100000 in
set_option maxHeartbeats 2000000 in
theorem settle_any (id : Int) {x : ItM} (hx : aget id T = some x) (hid : (Lit.int .i64 id).wf = true) (w : World) (h : TreeAt g D w p mb ib nb T) :
    Calls Tryz.prog 124 #[ptr p, ptr (ib id)] w (Settled g D w p mb ib nb (settleM T id)) := by
  obtain ⟨hc0, hpw, hmw⟩ := h.cell
  obtain ⟨c0, c1, c2, c3, c4, c5, c7, hiw⟩ := (h.item id x hx).cell
  have HH := Lib.hid h
  have hs : settleM T id = if x.links = 0 ∧ x.closed = true then adel id T else T := by unfold settleM; rw [hx]
  have HS := Lib.hid hs
  have HX := Lib.hid hx
  clear hs hx h c7
  by_cases h0 : x.links = 0
  · have e0 : (x.links == 0) = true := by simpa using h0
    rw [h0] at c2
    cases hcl : x.closed with
    | true =>
      rw [hcl] at c5
      have HF : Hid (settleM T id = adel id T) := HS.out.trans (if_pos ⟨h0, hcl⟩)
      have hst : ∃ w4, (∀ ty, (Builtin.delete_ #[98, 3] ty #[.map (some mb), .int .i64 id]).run Tryz.prog w.drew = .ok (.tuple #[]) w4) ∧ MapAt intK w4 mb (adel id (T.map fun q => (q.1, ptr (ib q.1)))) ∧ w.drew.mapTurned w4 mb :=
        MapAt.drop_run (F := intK) Tryz.underlying98 (HH.out.map.kept (w' := w.drew) rfl) id hid
      have HST := Lib.hid hst
      have hne1 : p ≠ mb := fun e => by have h1 := HH.out.tagp; rw [e, HH.out.tagm] at h1; cases h1
      have hne2 : ib id ≠ mb := fun e => by have h1 := HH.out.tagi id x HX.out; rw [e, HH.out.tagm] at h1; cases h1
      have HKP : Hid (∀ w4, w.drew.mapTurned w4 mb → w4.cell? ⟨p, 0, none⟩ = some (.map (some mb)) ∧ w4.cell? ⟨ib id, 0, none⟩ = some (.int .i64 id)) := fun w4 hT => ⟨(World.cell?_of_block (w := w.drew) (w' := w4) (a := ⟨p, 0, none⟩) (turned_below hT p hpw hne1)).trans hc0, (World.cell?_of_block (w := w.drew) (w' := w4) (a := ⟨ib id, 0, none⟩) (turned_below hT _ hiw hne2)).trans c0⟩
      clear hst HS h0 hcl e0 hne1 hne2
      go_enter Tryz.func124, Tryz.ntmps124
      go_wp2
      go_region_held3 (fun w' => w'.cell? ⟨p, 0, none⟩ = some (.map (some mb)) ∧ w'.cell? ⟨ib id, 0, none⟩ = some (.int .i64 id)) (first | exact ⟨hc0, c0⟩ | exact HKP.out _ hT4) ((first | (obtain ⟨w4, hrun4, hM4, hT4⟩ := HST.out; rw [hrun4]; go_simp)))
      have hsz := turned_size hT4
      have hK := turned_keeps hT4
      go_end0
      refine ⟨rfl, ?_, ⟨hK.os, hK.tape, hK.output, hK.size, hK.block⟩, hsz⟩
      rw [HF.out]
      exact (HH.out.below (Below.refl _ _).drew (Nat.le_refl _)).del hM4 hK.size (fun b hb hbm => hK.block b hb hbm)
    | false =>
      rw [hcl] at c5
      have HF : Hid (settleM T id = T) := HS.out.trans (if_neg (fun h => by rw [hcl] at h; cases h.2))
      clear HS h0 hcl e0
      go_enter Tryz.func124, Tryz.ntmps124
      go_wp2
      go_end0
      exact ⟨rfl, by rw [HF.out]; exact HH.out, Keeps.refl _ _, rfl⟩
  · have e0 : (x.links == 0) = false := by simpa using h0
    have HF : Hid (settleM T id = T) := HS.out.trans (if_neg (fun h => h0 h.1))
    clear HS h0
    go_enter Tryz.func124, Tryz.ntmps124
    go_wp2
    go_end0
    exact ⟨rfl, by rw [HF.out]; exact HH.out, Keeps.refl _ _, rfl⟩
end
end Go.Proofs.YtpgklnhkfgbpgaaGreatDoor
