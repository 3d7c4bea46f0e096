/- For every input TreeNumbers returns true, and its arguments read afterwards as before: no condition. -/
import Derived.Test.YtohpcppeajijnaaGreatM45
namespace Go.Proofs.YtohpcppeajijnaaGreat.treeNumbers
open Go.ChangeShapes Go.WideShapes Go.ChangeAt Go.RowKit
set_option linter.unusedVariables false
theorem readable:uo Tryz.prog Tryz.f3.params.toList:=by
  rw[Tryz.params3]
  intro t ht
  cases ht
set_option maxRecDepth 100000 in
theorem lifted (os:Os) (started:os.Started) (H:Type) (enc:TypeId×Value→H):
    ReturnsInHanded {} Tryz.checked os 3 .any (Rows.treeNumbersSpec.pre6 enc Tryz.prog Tryz.f3 Rows.treeNumbersRow.domain false) (Rows.treeNumbersSpec.post enc Tryz.prog Tryz.f3 false true false false):=by
  refine returnsInHanded_of_change_sized (C:=Tryz.checked) own started (by kernel_rfl) Tryz.func3
    (ChangeSpec.witness6 (enc:=enc) (C:=Tryz.checked) false ⟨#[],#[],[]⟩ 8 (by kernel_rfl) (by kernel_rfl) (by kernel_rfl) (by kernel_rfl)) ?_
  intro W base args ds gs before hval0 hW hcnd hsz0 _
  have hval:∀(j:Nat) t v,Tryz.f3.params[j]? =some t→args[j]? =some v→Value.okWide Tryz.prog W .any base t v:=hval0
  have hW':=hW
  obtain⟨p,q,QI,hV,rfl,hfz,hnd⟩:=hW
  have hA:DataW.TrodAll enc Tryz.prog W 0 (fun _=>true) true Tryz.f3.params.toList args.toList ds p:=QI
  have hlt:=hW'.lt
  rw[Tryz.params3]at hA hval
  obtain⟨rfl,rfl,rfl⟩:=trodAll_none hA
  obtain⟨rfl,rfl⟩:=trodVars_none hV
  clear QI hval0
  simp only[List.append_nil]at hlt
  refine(walk W).mono fun e W' ⟨he,hb⟩=>⟨_,he,Fj (P:=Tryz.prog) laidOut readable rfl hW' hb (T:=4) rfl Tryz.underlying4 rfl⟩
theorem proved:Rows.TreeNumbersSaid:=
  OpenClaim.holds_of_wide 3 Tryz.f3 rfl rfl rfl rfl rfl rfl rfl ⟨rfl,rfl,rfl,rfl,rfl⟩ rfl rfl rfl rfl rfl (by kernel_rfl) Tryz.func3 (by kernel_rfl)
    (of_decide_eq_true (by kernel_rfl)) (by unfold Func.isWrapper;rw[if_neg (of_decide_eq_false (by kernel_rfl))];exact⟨rfl,rfl⟩)
    (fun os started H enc _=>lifted os started H enc)
#print axioms proved
end Go.Proofs.YtohpcppeajijnaaGreat.treeNumbers
