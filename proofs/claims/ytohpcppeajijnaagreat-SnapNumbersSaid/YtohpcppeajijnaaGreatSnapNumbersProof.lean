/- For every input SnapNumbers returns true, and its arguments read afterwards as before: no condition. -/
import Derived.Test.YtohpcppeajijnaaGreatM48
namespace Go.Proofs.YtohpcppeajijnaaGreat.snapNumbers
open Go.ChangeShapes Go.WideShapes Go.ChangeAt Go.RowKit
set_option linter.unusedVariables false
theorem readable:om Tryz.prog Tryz.f5.params.toList:=by
  rw[Tryz.params5]
  intro t ht
  cases ht
set_option maxRecDepth 100000 in
theorem lifted (os:Os) (started:os.Started) (H:Type) (enc:TypeId×Value→H):
    ReturnsInHanded {} Tryz.checked os 5 .any (Rows.snapNumbersSpec.pre6 enc Tryz.prog Tryz.f5 Rows.snapNumbersRow.domain false) (Rows.snapNumbersSpec.post enc Tryz.prog Tryz.f5 false true false false):=by
  refine returnsInHanded_of_change_sized (C:=Tryz.checked) own started (by kernel_rfl) Tryz.func5
    (ChangeSpec.witness6 (enc:=enc) (C:=Tryz.checked) false ⟨#[],#[],[]⟩ 8 (by kernel_rfl) (by kernel_rfl) (by kernel_rfl) (by kernel_rfl)) ?_
  intro W base args ds gs before hval0 hW hcnd hsz0 _
  have hval:∀(j:Nat) t v,Tryz.f5.params[j]? =some t→args[j]? =some v→Value.okWide Tryz.prog W .any base t v:=hval0
  have hW':=hW
  obtain⟨p,q,LU,hV,rfl,hfz,hnd⟩:=hW
  have hA:DataW.TrodAll enc Tryz.prog W 0 (fun _=>true) true Tryz.f5.params.toList args.toList ds p:=LU
  have hlt:=hW'.lt
  rw[Tryz.params5]at hA hval
  obtain⟨rfl,rfl,rfl⟩:=trodAll_none hA
  obtain⟨rfl,rfl⟩:=trodVars_none hV
  clear LU hval0
  simp only[List.append_nil]at hlt
  refine(walk W).mono fun e W' ⟨he,hb⟩=>⟨_,he,uX (P:=Tryz.prog) laidOut readable rfl hW' hb (T:=4) rfl Tryz.underlying4 rfl⟩
theorem proved:Rows.SnapNumbersSaid:=
  OpenClaim.holds_of_wide 5 Tryz.f5 rfl rfl rfl rfl rfl rfl rfl ⟨rfl,rfl,rfl,rfl,rfl⟩ rfl rfl rfl rfl rfl (by kernel_rfl) Tryz.func5 (by kernel_rfl)
    (of_decide_eq_true (by kernel_rfl)) (by unfold Func.isWrapper;rw[if_neg (of_decide_eq_false (by kernel_rfl))];exact⟨rfl,rfl⟩)
    (fun os started H enc _=>lifted os started H enc)
#print axioms proved
end Go.Proofs.YtohpcppeajijnaaGreat.snapNumbers
