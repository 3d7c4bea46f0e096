/- For -/
import Derived.Test.YtjnhnlabpccgjaaGreatDoorM53
import Derived.Test.YtjnhnlabpccgjaaGreatDoorCards
import Derived.Test.YtjnhnlabpccgjaaGreatDoorTie
import Derived.Deep.DeepHandedRow
import Derived.Lib.LaidTab
set_option maxRecDepth 100000
set_option maxHeartbeats 64000000
set_option linter.all false
namespace Go.Proofs.YtjnhnlabpccgjaaGreatDoor.stateNumbers
open Go.ChangeShapes Go.WideShapes Go.ChangeAt Go.RowKit
theorem readable:vo Tryz.prog Tryz.f3.params.toList:=by
  rw[Tryz.params3];intro t ht;cases ht
noncomputable def ku (os:Os):World:=Eu os
theorem wD (os:Os):laidMet Tryz.prog Rows.stateNumbersRow.laid ((ku os).forCall (fun _ _=>0) ⟨#[],#[],[]⟩).memory:=
  laidMet_of_run' 8 (by kernel_rfl) (by kernel_rfl)
theorem reads (os:Os) {H:Type} (enc:TypeId×Value→H):∃places,DataW.whole enc Tryz.prog ((ku os).forCall (fun _ _=>0) ⟨#[],#[],[]⟩).memory Tryz.f3.params.toList Rows.stateNumbersSpec.vars false (#[]:Array Value).toList 8=some ([],[],places):=
  ⟨[],by kernel_rfl⟩
theorem lifted (os:Os) (started:os.Started) (H:Type) (enc:TypeId×Value→H) (F:Stop.Interp):
    ReturnsInHanded {} Tryz.checked os 3 .any ((OpenSpec.ofChange Rows.stateNumbersSpec).preRow enc Tryz.prog Tryz.f3 Rows.stateNumbersRow.domain false Rows.stateNumbersRow.laid) (((OpenSpec.ofChange Rows.stateNumbersSpec).at F).post enc Tryz.prog Tryz.f3 false true false false):=by
  obtain⟨places,hx⟩:=reads os enc
  refine returnsInHanded_of_row (C:=Tryz.checked) (s:=OpenSpec.ofChange Rows.stateNumbersSpec) own started (by kernel_rfl) Tryz.func3
    (witness_row_at (enc:=enc) (C:=Tryz.checked) false (ku os) #[] rfl (by kernel_rfl) (by kernel_rfl) (by kernel_rfl)
      (OpenSpec.preRow_of_cond 8 hx (by kernel_rfl) (fun k hk=>by cases hk) (by kernel_rfl) (wD os))) ?_
  intro W base args ds gs before hval0 hW hcnd hcond hsz0 hL hsh _;have hval:∀(j:Nat) t v,Tryz.f3.params[j]? =some t→args[j]? =some v→Value.okWide Tryz.prog W .any base t v:=hval0;have hW':=hW;obtain⟨p,q,V9,hV,rfl,hfz,hnd⟩:=hW;have hA:DataW.TrodAll enc Tryz.prog W 0 (fun _=>true) true Tryz.f3.params.toList args.toList ds p:=V9;have hlt:=hW'.lt;rw[Tryz.params3]at hA hval;obtain⟨rfl,rfl,rfl⟩:=trodAll_none hA;obtain⟨rfl,rfl⟩:=trodVars_none hV;clear V9 hval0;simp only[aaE]at hlt;refine(walk W hsh).mono fun e W' ⟨he,hb⟩=>⟨_,he,Cy (P:=Tryz.prog) laidOut readable rfl hW' hb (T:=4) rfl Tryz.underlying4 rfl⟩
theorem said:Rows.StateNumbersSaid:=
  OpenClaim.holds_of_cond 3 Tryz.f3 rfl rfl rfl rfl rfl rfl rfl ⟨rfl,rfl,rfl,rfl,rfl⟩ rfl rfl rfl rfl rfl (by kernel_rfl) Tryz.func3 (by kernel_rfl)
    (of_decide_eq_true (by kernel_rfl)) (by unfold Func.isWrapper;rw[if_neg (of_decide_eq_false (by kernel_rfl))];exact⟨rfl,rfl⟩)
    (fun os started H enc _ F=>by rw[OpenClaim.pre_eq_preRow];exact lifted os started H enc F)
theorem plain (f:FuncId) (fn:Func) (hf:Tryz.pinned.checked.prog.funcNamed "permafrost/permafrostlaw14.StateNumbers" =some f) (hfn:Tryz.pinned.checked.prog.funcs[f]? =some fn):
    true=Tryz.pinned.checked.prog.looks []∧∀(j:Nat) t,fn.params[j]? =some t→Tryz.pinned.checked.prog.wantsStandIn t=false:=by
  obtain rfl:f=3:=Option.some.inj ((show Tryz.prog.funcNamed "permafrost/permafrostlaw14.StateNumbers" =some 3 by kernel_rfl).symm.trans hf)|>.symm;obtain rfl:fn=Tryz.f3:=(aaK (Tryz.func3.symm.trans hfn)).symm;refine⟨by kernel_rfl,fun j t ht=> ?_⟩;rw[Tryz.params3]at ht;simp at ht
theorem proved:Rows.StateNumbersCardSaid:=
  Claim7.holds_tied_plain_at .later [] _ _ _ _ said (fun _ h=>by cases h) (by kernel_rfl) (fun _ h=>by cases h) stateNumbers_row_tie rfl ⟨rfl,rfl⟩ (by kernel_rfl) rfl plain (by kernel_rfl)
#print axioms proved
end Go.Proofs.YtjnhnlabpccgjaaGreatDoor.stateNumbers
