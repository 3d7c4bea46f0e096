/- For -/
import Derived.Test.YtjnhnlabpccgjaaGreatDoorM47
import Derived.Test.YtjnhnlabpccgjaaGreatDoorCards
import Derived.Test.YtjnhnlabpccgjaaGreatDoorTie
import Derived.Deep.DeepHandedRow
import Derived.Lib.LaidTab
set_option maxRecDepth 100000
set_option maxHeartbeats 64000000
set_option linter.all false
namespace Go.Proofs.YtjnhnlabpccgjaaGreatDoor.stateLoads
open Go.ChangeShapes Go.WideShapes Go.ChangeAt Go.RowKit
theorem readable:CO Tryz.prog Tryz.f6.params.toList:=by
  rw[Tryz.params6];intro t ht;simp only[aan,abh,or_false]at ht;rcases ht with rfl|rfl|rfl|rfl|rfl<;>exact⟨by kernel_rfl,of_decide_eq_true (by kernel_rfl)⟩
noncomputable def AX (os:Os):World:=VY os
theorem WI (os:Os):laidMet Tryz.prog Rows.stateLoadsRow.laid ((AX os).forCall (fun _ _=>0) ⟨#[],#[.slice none 0 0, .slice none 0 0, .int .i64 0, .int .u8 0, .bool false],[]⟩).memory:=
  laidMet_of_run' 8 (by kernel_rfl) (by kernel_rfl)
theorem reads (os:Os) {H:Type} (enc:TypeId×Value→H):∃places,DataW.whole enc Tryz.prog ((AX os).forCall (fun _ _=>0) ⟨#[],#[.slice none 0 0, .slice none 0 0, .int .i64 0, .int .u8 0, .bool false],[]⟩).memory Tryz.f6.params.toList Rows.stateLoadsSpec.vars false (#[.slice none 0 0, .slice none 0 0, .int .i64 0, .int .u8 0, .bool false]:Array Value).toList 8=some ([.nil, .nil, .lit (.int .i64 0), .lit (.int .u8 0), .lit (.bool false)],[],places):=
  ⟨[],by kernel_rfl⟩
theorem lifted (os:Os) (started:os.Started) (H:Type) (enc:TypeId×Value→H) (F:Stop.Interp):
    ReturnsInHanded {} Tryz.checked os 6 .any ((OpenSpec.ofChange Rows.stateLoadsSpec).preRow enc Tryz.prog Tryz.f6 Rows.stateLoadsRow.domain false Rows.stateLoadsRow.laid) (((OpenSpec.ofChange Rows.stateLoadsSpec).at F).post enc Tryz.prog Tryz.f6 false true false false):=by
  obtain⟨places,hx⟩:=reads os enc
  refine returnsInHanded_of_row (C:=Tryz.checked) (s:=OpenSpec.ofChange Rows.stateLoadsSpec) own started (by kernel_rfl) Tryz.func6
    (witness_row_at (enc:=enc) (C:=Tryz.checked) false (AX os) #[.slice none 0 0, .slice none 0 0, .int .i64 0, .int .u8 0, .bool false] rfl (by kernel_rfl) (by kernel_rfl) (by kernel_rfl)
      (OpenSpec.preRow_of_cond 8 hx (by kernel_rfl) (fun k hk=>by cases hk) (by kernel_rfl) (WI os))) ?_
  intro W base args ds gs before hval0 hW hcnd hcond hsz0 hL hsh _;have hval:∀(j:Nat) t v,Tryz.f6.params[j]? =some t→args[j]? =some v→Value.okWide Tryz.prog W .any base t v:=hval0;have hW':=hW;obtain⟨p,q,hA0,hV,rfl,hfz,hnd⟩:=hW;have hA:DataW.TrodAll enc Tryz.prog W 0 (fun _=>true) true Tryz.f6.params.toList args.toList ds p:=hA0;have hlt:=hW'.lt;have hsz:(DataW.weightsEach Tryz.prog (Tryz.f6.params.toList++[]) (ds++gs)).all (· ≤reachBytes)=true:=hsz0;rw[Tryz.params6]at hA hval hsz;obtain⟨v0,vs0,d0,ds0,p0,q0,hargs,rfl,rfl,h0,r0⟩:=trodAll_cons hA;obtain⟨v1,vs1,d1,ds1,p1,q1,rfl,rfl,rfl,h1,r1⟩:=trodAll_cons r0;obtain⟨v2,vs2,d2,ds2,p2,q2,rfl,rfl,rfl,h2,r2⟩:=trodAll_cons r1;obtain⟨v3,vs3,d3,ds3,p3,q3,rfl,rfl,rfl,h3,r3⟩:=trodAll_cons r2;obtain⟨v4,vs4,d4,ds4,p4,q4,rfl,rfl,rfl,h4,r4⟩:=trodAll_cons r3;obtain⟨rfl,rfl,rfl⟩:=trodAll_nil r4;obtain rfl:args= #[v0,v1,v2,v3,v4]:=by cases args;simp_all
  obtain⟨rfl,rfl⟩:=trodVars_none hV;obtain⟨a2,rfl,rfl,rfl,w2⟩:=open_int aaX (hval 2 3 v2 rfl rfl) h2;obtain⟨a3,rfl,rfl,rfl,w3⟩:=open_int abq (hval 3 5 v3 rfl rfl) h3;obtain⟨a4,rfl,rfl,rfl⟩:=open_bool Tryz.underlying4 (hval 4 4 v4 rfl rfl) h4;clear hA0 hval0;simp only[aaA]at hlt hsz;refine(walk W base hsh v0 d0 p0 (hval 0 34 v0 rfl rfl) h0 (fun x hx=>hlt x (by simp[hx])) v1 d1 p1 (hval 1 28 v1 rfl rfl) h1 (fun x hx=>hlt x (by simp[hx])) a2 w2 a3 w3 a4 hsz).mono fun e W' ⟨he,hb⟩=>⟨_,he,SV (P:=Tryz.prog) laidOut readable rfl hW' hb (T:=4) rfl Tryz.underlying4 rfl⟩
theorem said:Rows.StateLoadsSaid:=
  OpenClaim.holds_of_cond 6 Tryz.f6 rfl rfl rfl rfl rfl rfl rfl ⟨rfl,rfl,rfl,rfl,rfl⟩ rfl rfl rfl rfl rfl (by kernel_rfl) Tryz.func6 (by kernel_rfl)
    (of_decide_eq_true (by kernel_rfl)) (by unfold Func.isWrapper;rw[if_neg (of_decide_eq_false (by kernel_rfl))];exact⟨rfl,rfl⟩)
    (fun os started H enc _ F=>by rw[OpenClaim.pre_eq_preRow];exact lifted os started H enc F)
theorem plain (f:FuncId) (fn:Func) (hf:Tryz.pinned.checked.prog.funcNamed "permafrost/permafrostlaw14.StateLoads" =some f) (hfn:Tryz.pinned.checked.prog.funcs[f]? =some fn):
    true=Tryz.pinned.checked.prog.looks []∧∀(j:Nat) t,fn.params[j]? =some t→Tryz.pinned.checked.prog.wantsStandIn t=false:=by
  obtain rfl:f=6:=Option.some.inj ((show Tryz.prog.funcNamed "permafrost/permafrostlaw14.StateLoads" =some 6 by kernel_rfl).symm.trans hf)|>.symm;obtain rfl:fn=Tryz.f6:=(aaH (Tryz.func6.symm.trans hfn)).symm;refine⟨by kernel_rfl,fun j t ht=> ?_⟩;rw[Tryz.params6]at ht;have hm:=Array.mem_of_getElem? ht;simp only[List.mem_toArray,aan,abh,or_false]at hm;rcases hm with rfl|rfl|rfl|rfl|rfl
  ·exact(show Tryz.prog.wantsStandIn 34=false by kernel_rfl)
  ·exact(show Tryz.prog.wantsStandIn 28=false by kernel_rfl)
  ·exact(show Tryz.prog.wantsStandIn 3=false by kernel_rfl)
  ·exact(show Tryz.prog.wantsStandIn 5=false by kernel_rfl)
  ·exact(show Tryz.prog.wantsStandIn 4=false by kernel_rfl)
theorem proved:Rows.StateLoadsCardSaid:=
  Claim7.holds_tied_plain_at .later [] _ _ _ _ said (fun _ h=>by cases h) (by kernel_rfl) (fun _ h=>by cases h) stateLoads_row_tie rfl ⟨rfl,rfl⟩ (by kernel_rfl) rfl plain (by kernel_rfl)
#print axioms proved
end Go.Proofs.YtjnhnlabpccgjaaGreatDoor.stateLoads
