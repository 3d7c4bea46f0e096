/- For -/
import Derived.Test.YthillkfmdndedaaGreatDoorM51
import Derived.Test.YthillkfmdndedaaGreatDoorCards
import Derived.Test.YthillkfmdndedaaGreatDoorTie
import Derived.Deep.DeepHandedRow
import Derived.Lib.LaidTab
set_option maxRecDepth 100000
set_option maxHeartbeats 64000000
set_option linter.all false
namespace Go.Proofs.YthillkfmdndedaaGreatDoor.topFresh
open Go.ChangeShapes Go.WideShapes Go.ChangeAt Go.RowKit
theorem readable:D7 Tryz.prog Tryz.f3.params.toList:=by
  rw[Tryz.params3];intro t m;simp only[List.mem_cons,aaX,abM]at m;rcases m with rfl|rfl<;>exact⟨by kernel_rfl,of_decide_eq_true (by kernel_rfl)⟩
noncomputable def Cu (m:Os):World:=ZE m
theorem ZH (m:Os):laidMet Tryz.prog Rows.topFreshRow.laid ((Cu m).forCall (λ _ _=>0) ⟨#[],#[.slice none 0 0, .slice none 0 0],[]⟩).memory:=
  laidMet_of_run' 8 (by kernel_rfl) (by kernel_rfl)
theorem reads (E:Os) {H:Type} (enc:TypeId×Value->H):∃u,DataW.whole enc Tryz.prog ((Cu E).forCall (λ _ _=>0) ⟨#[],#[.slice none 0 0, .slice none 0 0],[]⟩).memory Tryz.f3.params.toList Rows.topFreshSpec.vars false (#[.slice none 0 0, .slice none 0 0]:Array Value).toList 8=some ([.nil, .nil],[],u):=
  ⟨[],by kernel_rfl⟩
theorem lifted (E:Os) (A:E.Started) (H:Type) (enc:TypeId×Value->H) (F:Stop.Interp):
    ReturnsInHanded {} Tryz.checked E 3 .any ((OpenSpec.ofChange Rows.topFreshSpec).preRow enc Tryz.prog Tryz.f3 Rows.topFreshRow.domain false Rows.topFreshRow.laid) (((OpenSpec.ofChange Rows.topFreshSpec).at F).post enc Tryz.prog Tryz.f3 false true false false):=by
  obtain⟨u,M⟩:=reads E enc
  refine returnsInHanded_of_row (C:=Tryz.checked) (s:=OpenSpec.ofChange Rows.topFreshSpec) own A (by kernel_rfl) Tryz.func3
    (witness_row_at (enc:=enc) (C:=Tryz.checked) false (Cu E) #[.slice none 0 0, .slice none 0 0] rfl (by kernel_rfl) (by kernel_rfl) (by kernel_rfl)
      (OpenSpec.preRow_of_cond 8 M (by kernel_rfl) (λ k hk=>by cases hk) (by kernel_rfl) (ZH E))) ?_
  intro W B m X Z before y U V Q K hL R _;have z:∀(j:Nat) t v,Tryz.f3.params[j]? =some t->m[j]? =some v->Value.okWide Tryz.prog W .any B t v:=y;have I:=U;obtain⟨p,q,J,hV,rfl,ak,av⟩:=U;have S:DataW.TrodAll enc Tryz.prog W 0 (λ _=>true) true Tryz.f3.params.toList m.toList X p:=J;have G:=I.lt;have D:(DataW.weightsEach Tryz.prog (Tryz.f3.params.toList++[]) (X++Z)).all (· <=reachBytes)=true:=K;rw[Tryz.params3]at S z D;obtain⟨v0,aC,d0,aD,p0,q0,O,rfl,rfl,h0,r0⟩:=trodAll_cons S;obtain⟨N,aB,d1,aA,Y,q1,rfl,rfl,rfl,h1,r1⟩:=trodAll_cons r0;obtain⟨rfl,rfl,rfl⟩:=trodAll_nil r1;obtain rfl:m= #[v0,N]:=by cases m;simp_all
  obtain⟨rfl,rfl⟩:=trodVars_none hV;clear J y;simp only[aaz]at G D;refine(walk W B R v0 d0 p0 (z 0 22 v0 rfl rfl) h0 (λ x M=>G x (by simp[M])) N d1 Y (z 1 22 N rfl rfl) h1 (λ x M=>G x (by simp[M])) D).mono λ e W' ⟨he,hb⟩=>⟨_,he,VH (P:=Tryz.prog) laidOut readable rfl I hb (T:=4) rfl Tryz.underlying4 rfl⟩
theorem jZ {a b:Bool} (h:a=true) (k:b=true):(a&&b)=true:=by rw[h,k];rfl
theorem Vs {P:Program} {f:FuncId} {m:Func} {s:ChangeSpec} {c:OpenClaim} (h1:(c.wf (OpenSpec.ofChange s))=true) (Z:(laidOutB P)=true) (h3:(mapsRowed P)=true) (Y:(m.params.all (P.readableRec ·))=true) (h5:(namedTie P c.named s.vars)=true) (W:((c.stops==[]))=true) (X:((P.stops==[]))=true) (h8:((c.knobs==[]))=true) (h9:((P.stopKnobs==[]))=true) (Q:((c.inPlace==P.inPlace f))=true) (C:((c.unfollowed==P.unfollowed f))=true) (S:((c.recurses==P.recurses f))=true) (A:((c.named==P.varsNamed f))=true) (Kv:((c.maps==(m.params.toList++s.plain.varTypes P).any (P.mapsRec ·)))=true) (J:((c.ifaces==(m.params.toList++s.plain.varTypes P).any (P.ifacesRec ·)))=true) (M:((c.mapsOut==P.mapsAmong m.resultTypes.toList))=true) (V:((c.loops==(m.params.toList++s.plain.varTypes P).any (P.loopsFrom ·)))=true) (N:((c.wideKeys==(m.params.toList++s.plain.varTypes P++m.resultTypes.toList).any (P.wideKeysFrom ·)))=true) (I:(s.vars.all (P.varReadable ·))=true) (O:(m.resultTypes.all (λ t=>P.readableRec t&&decide (t<P.types.size)))=true) (z:((c.ifacesOut==m.resultTypes.toList.any (P.ifacesRec ·)))=true) (F:((c.loopsOut==m.resultTypes.toList.any (P.loopsFrom ·)))=true) (U:((c.plainKeys==P.plainKeys))=true) (u:(c.shortTexts.isNone)=true) (K:(P.stopsHeard)=true) (y:(P.mayEnter)=true) (R:((c.lifted==P.liftsFinal))=true) (E:((P.make==some c.make))=true) (H:((c.kinds==(if c.domain.isEmpty then[]else m.params.toList.map λ t=>match P.underlying t with|some (.int k)=>some k|_=>none)))=true) (G:((c.pinned==c.pinnedBy))=true) (D:((c.veiled==(m.params.toList++s.plain.varTypes P++m.resultTypes.toList).any (P.veiledRec ·)))=true) (B:(c.veiledFits P m.params.toList (m.params.toList++s.plain.varTypes P++m.resultTypes.toList))=true):joinedFacts P f m s c=true:=jZ (jZ (jZ (jZ (jZ (jZ (jZ (jZ (jZ (jZ (jZ (jZ (jZ (jZ (jZ (jZ (jZ (jZ (jZ (jZ (jZ (jZ (jZ (jZ (jZ (jZ (jZ (jZ (jZ (jZ (jZ h1 Z) h3) Y) h5) W) X) h8) h9) Q) C) S) A) Kv) J) M) V) N) I) O) z) F) U) u) K) y) R) E) H) G) D) B
noncomputable abbrev Jf (F:Program->FuncId->Func->ChangeSpec->OpenClaim->Bool):Bool:=F Tryz.prog 3 Tryz.f3 (OpenSpec.ofChange Rows.topFreshSpec).bare Rows.topFreshRow
theorem j1:(Jf λ P f m s c=>c.wf (OpenSpec.ofChange s))=true:=by kernel_rfl
theorem j2:(Jf λ P f m s c=>laidOutB P)=true:=by kernel_rfl
theorem j3:(Jf λ P f m s c=>mapsRowed P)=true:=by kernel_rfl
theorem j4:(Jf λ P f m s c=>m.params.all (P.readableRec ·))=true:=by kernel_rfl
theorem j5:(Jf λ P f m s c=>namedTie P c.named s.vars)=true:=by kernel_rfl
theorem j6:(Jf λ P f m s c=>(c.stops==[]))=true:=by kernel_rfl
theorem j7:(Jf λ P f m s c=>(P.stops==[]))=true:=by kernel_rfl
theorem j8:(Jf λ P f m s c=>(c.knobs==[]))=true:=by kernel_rfl
theorem j9:(Jf λ P f m s c=>(P.stopKnobs==[]))=true:=by kernel_rfl
theorem j10:(Jf λ P f m s c=>(c.inPlace==P.inPlace f))=true:=by kernel_rfl
theorem j11:(Jf λ P f m s c=>(c.unfollowed==P.unfollowed f))=true:=by kernel_rfl
theorem j12:(Jf λ P f m s c=>(c.recurses==P.recurses f))=true:=by kernel_rfl
theorem j13:(Jf λ P f m s c=>(c.named==P.varsNamed f))=true:=by kernel_rfl
theorem j14:(Jf λ P f m s c=>(c.maps==(m.params.toList++s.plain.varTypes P).any (P.mapsRec ·)))=true:=by kernel_rfl
theorem j15:(Jf λ P f m s c=>(c.ifaces==(m.params.toList++s.plain.varTypes P).any (P.ifacesRec ·)))=true:=by kernel_rfl
theorem j16:(Jf λ P f m s c=>(c.mapsOut==P.mapsAmong m.resultTypes.toList))=true:=by kernel_rfl
theorem j17:(Jf λ P f m s c=>(c.loops==(m.params.toList++s.plain.varTypes P).any (P.loopsFrom ·)))=true:=by kernel_rfl
theorem j18:(Jf λ P f m s c=>(c.wideKeys==(m.params.toList++s.plain.varTypes P++m.resultTypes.toList).any (P.wideKeysFrom ·)))=true:=by kernel_rfl
theorem j19:(Jf λ P f m s c=>s.vars.all (P.varReadable ·))=true:=by kernel_rfl
theorem j20:(Jf λ P f m s c=>m.resultTypes.all (λ t=>P.readableRec t&&decide (t<P.types.size)))=true:=by kernel_rfl
theorem j21:(Jf λ P f m s c=>(c.ifacesOut==m.resultTypes.toList.any (P.ifacesRec ·)))=true:=by kernel_rfl
theorem j22:(Jf λ P f m s c=>(c.loopsOut==m.resultTypes.toList.any (P.loopsFrom ·)))=true:=by kernel_rfl
theorem j23:(Jf λ P f m s c=>(c.plainKeys==P.plainKeys))=true:=by kernel_rfl
theorem j24:(Jf λ P f m s c=>c.shortTexts.isNone)=true:=by kernel_rfl
theorem j25:(Jf λ P f m s c=>P.stopsHeard)=true:=by kernel_rfl
theorem j26:(Jf λ P f m s c=>P.mayEnter)=true:=by kernel_rfl
theorem j27:(Jf λ P f m s c=>(c.lifted==P.liftsFinal))=true:=by kernel_rfl
theorem j28:(Jf λ P f m s c=>(P.make==some c.make))=true:=by kernel_rfl
theorem j29:(Jf λ P f m s c=>(c.kinds==(if c.domain.isEmpty then[]else m.params.toList.map λ t=>match P.underlying t with|some (.int k)=>some k|_=>none)))=true:=by kernel_rfl
theorem j30:(Jf λ P f m s c=>(c.pinned==c.pinnedBy))=true:=by kernel_rfl
theorem j31:(Jf λ P f m s c=>(c.veiled==(m.params.toList++s.plain.varTypes P++m.resultTypes.toList).any (P.veiledRec ·)))=true:=by kernel_rfl
theorem j32:(Jf λ P f m s c=>c.veiledFits P m.params.toList (m.params.toList++s.plain.varTypes P++m.resultTypes.toList))=true:=by kernel_rfl
theorem jall:joinedFacts Tryz.prog 3 Tryz.f3 (OpenSpec.ofChange Rows.topFreshSpec).bare Rows.topFreshRow=true:=Vs j1 j2 j3 j4 j5 j6 j7 j8 j9 j10 j11 j12 j13 j14 j15 j16 j17 j18 j19 j20 j21 j22 j23 j24 j25 j26 j27 j28 j29 j30 j31 j32
theorem said:Rows.TopFreshSaid:=
  OpenClaim.holds_of_cond 3 Tryz.f3 rfl rfl rfl rfl rfl rfl rfl ⟨rfl,rfl,rfl,rfl,rfl⟩ rfl rfl rfl rfl rfl (by kernel_rfl) Tryz.func3 jall
    (of_decide_eq_true (by kernel_rfl)) (by unfold Func.isWrapper;rw[if_neg (of_decide_eq_false (by kernel_rfl))];exact⟨rfl,rfl⟩)
    (λ C m H enc _ F=>by rw[OpenClaim.pre_eq_preRow];exact lifted C m H enc F)
theorem plain (f:FuncId) (y:Func) (B:Tryz.pinned.checked.prog.funcNamed "permafrost/permafrosttop.TopFresh" =some f) (u:Tryz.pinned.checked.prog.funcs[f]? =some y):
    true=Tryz.pinned.checked.prog.looks []/\∀(j:Nat) t,y.params[j]? =some t->Tryz.pinned.checked.prog.wantsStandIn t=false:=by
  obtain rfl:f=3:=Option.some.inj ((show Tryz.prog.funcNamed "permafrost/permafrosttop.TopFresh" =some 3 by kernel_rfl).symm.trans B)|>.symm;obtain rfl:y=Tryz.f3:=(aat (Tryz.func3.symm.trans u)).symm;refine⟨by kernel_rfl,fun j t A=> ?_⟩;rw[Tryz.params3]at A;have z:=Array.mem_of_getElem? A;simp only[List.mem_toArray,List.mem_cons,aaX,abM]at z;rcases z with rfl|rfl
  ·exact(show Tryz.prog.wantsStandIn 22=false by kernel_rfl)
  ·exact(show Tryz.prog.wantsStandIn 22=false by kernel_rfl)
theorem proved:Rows.TopFreshCardSaid:=
  Claim7.holds_tied_plain_at .later [] _ _ _ _ said (λ _ h=>by cases h) (by kernel_rfl) (λ _ h=>by cases h) topFresh_row_tie rfl ⟨rfl,rfl⟩ (by kernel_rfl) rfl plain (by kernel_rfl)
#print axioms proved
end Go.Proofs.YthillkfmdndedaaGreatDoor.topFresh
