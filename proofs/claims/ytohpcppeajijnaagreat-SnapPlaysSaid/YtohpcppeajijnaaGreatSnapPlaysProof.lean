/- For every input SnapPlays returns true, and its arguments read afterwards as before: no condition. -/
import Derived.Test.YtohpcppeajijnaaGreatM47
namespace Go.Proofs.YtohpcppeajijnaaGreat.snapPlays
open Go.ChangeShapes Go.WideShapes Go.ChangeAt Go.RowKit
set_option linter.unusedVariables false
theorem readable:om Tryz.prog Tryz.f6.params.toList:=by
  rw[Tryz.params6]
  intro t ht
  simp only[List.mem_cons,List.not_mem_nil,or_false]at ht
  subst ht;exact⟨by kernel_rfl,of_decide_eq_true (by kernel_rfl)⟩
set_option maxRecDepth 100000 in
theorem lifted (os:Os) (started:os.Started) (H:Type) (enc:TypeId×Value→H):
    ReturnsInHanded {} Tryz.checked os 6 .any (Rows.snapPlaysSpec.pre6 enc Tryz.prog Tryz.f6 Rows.snapPlaysRow.domain false) (Rows.snapPlaysSpec.post enc Tryz.prog Tryz.f6 false true false false):=by
  refine returnsInHanded_of_change_sized (C:=Tryz.checked) own started (by kernel_rfl) Tryz.func6
    (ChangeSpec.witness6 (enc:=enc) (C:=Tryz.checked) false ⟨#[],#[.slice none 0 0],[]⟩ 8 (by kernel_rfl) (by kernel_rfl) (by kernel_rfl) (by kernel_rfl)) ?_
  intro W base args ds gs before hval0 hW hcnd hsz0 _
  have hval:∀(j:Nat) t v,Tryz.f6.params[j]? =some t→args[j]? =some v→Value.okWide Tryz.prog W .any base t v:=hval0
  have hW':=hW
  obtain⟨p,q,LU,hV,rfl,hfz,hnd⟩:=hW
  have hA:DataW.TrodAll enc Tryz.prog W 0 (fun _=>true) true Tryz.f6.params.toList args.toList ds p:=LU
  have hlt:=hW'.lt
  have hsz:(DataW.weightsEach Tryz.prog (Tryz.f6.params.toList++[]) (ds++gs)).all (· ≤reachBytes)=true:=hsz0
  rw[Tryz.params6]at hA hval hsz
  obtain⟨v0,vs0,d0,ds0,p0,q0,hargs,rfl,rfl,h0,r0⟩:=trodAll_cons hA
  obtain⟨rfl,rfl,rfl⟩:=trodAll_nil r0
  obtain rfl:args= #[v0]:=by cases args;simp_all
  obtain⟨rfl,rfl⟩:=trodVars_none hV
  clear LU hval0
  simp only[List.append_nil]at hlt hsz
  refine(walk W base v0 d0 p0 (hval 0 53 v0 rfl rfl) h0 (fun x hx=>hlt x (by simp[hx])) hsz).mono fun e W' ⟨he,hb⟩=>⟨_,he,uX (P:=Tryz.prog) laidOut readable rfl hW' hb (T:=4) rfl Tryz.underlying4 rfl⟩
theorem proved:Rows.SnapPlaysSaid:=
  OpenClaim.holds_of_wide 6 Tryz.f6 rfl rfl rfl rfl rfl rfl rfl ⟨rfl,rfl,rfl,rfl,rfl⟩ rfl rfl rfl rfl rfl (by kernel_rfl) Tryz.func6 (by kernel_rfl)
    (of_decide_eq_true (by kernel_rfl)) (by unfold Func.isWrapper;rw[if_neg (of_decide_eq_false (by kernel_rfl))];exact⟨rfl,rfl⟩)
    (fun os started H enc _=>lifted os started H enc)
#print axioms proved
end Go.Proofs.YtohpcppeajijnaaGreat.snapPlays
