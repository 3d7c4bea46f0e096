/- For -/
import Derived.Test.YtmflaonodghbcaaGreatDoorM49
import Derived.Test.YtmflaonodghbcaaGreatDoorCards
import Derived.Test.YtmflaonodghbcaaGreatDoorTie
import Derived.Deep.DeepHandedRow
import Derived.Lib.LaidTab
set_option maxRecDepth 100000
set_option maxHeartbeats 64000000
set_option linter.all false
namespace Go.Proofs.YtmflaonodghbcaaGreatDoor.topClock
open Go.ChangeShapes Go.WideShapes Go.ChangeAt Go.RowKit
theorem readable:Dq Tryz.prog Tryz.f3.params.toList:=by
  rw[Tryz.params3];intro t ht;simp only[aaq,abv,or_false]at ht;rcases ht with rfl|rfl|rfl<;>exact⟨by kernel_rfl,of_decide_eq_true (by kernel_rfl)⟩
noncomputable def BG (os:Os):World:=Yv os
theorem Yw (os:Os):laidMet Tryz.prog Rows.topClockRow.laid ((BG os).forCall (fun _ _=>0) ⟨#[],#[.slice none 0 0, .slice none 0 0, .slice none 0 0],[]⟩).memory:=
  laidMet_of_run' 8 (by kernel_rfl) (by kernel_rfl)
theorem reads (os:Os) {H:Type} (enc:TypeId×Value→H):∃places,DataW.whole enc Tryz.prog ((BG os).forCall (fun _ _=>0) ⟨#[],#[.slice none 0 0, .slice none 0 0, .slice none 0 0],[]⟩).memory Tryz.f3.params.toList Rows.topClockSpec.vars false (#[.slice none 0 0, .slice none 0 0, .slice none 0 0]:Array Value).toList 8=some ([.nil, .nil, .nil],[],places):=
  ⟨[],by kernel_rfl⟩
theorem lifted (os:Os) (started:os.Started) (H:Type) (enc:TypeId×Value→H) (F:Stop.Interp):
    ReturnsInHanded {} Tryz.checked os 3 .any ((OpenSpec.ofChange Rows.topClockSpec).preRow enc Tryz.prog Tryz.f3 Rows.topClockRow.domain false Rows.topClockRow.laid) (((OpenSpec.ofChange Rows.topClockSpec).at F).post enc Tryz.prog Tryz.f3 false true false false):=by
  obtain⟨places,hx⟩:=reads os enc
  refine returnsInHanded_of_row (C:=Tryz.checked) (s:=OpenSpec.ofChange Rows.topClockSpec) own started (by kernel_rfl) Tryz.func3
    (witness_row_at (enc:=enc) (C:=Tryz.checked) false (BG os) #[.slice none 0 0, .slice none 0 0, .slice none 0 0] rfl (by kernel_rfl) (by kernel_rfl) (by kernel_rfl)
      (OpenSpec.preRow_of_cond 8 hx (by kernel_rfl) (fun k hk=>by cases hk) (by kernel_rfl) (Yw os))) ?_
  intro W base args ds gs before hval0 hW hcnd hcond hsz0 hL hsh _;have hval:∀(j:Nat) t v,Tryz.f3.params[j]? =some t→args[j]? =some v→Value.okWide Tryz.prog W .any base t v:=hval0;have hW':=hW;obtain⟨p,q,hA0,hV,rfl,hfz,hnd⟩:=hW;have hA:DataW.TrodAll enc Tryz.prog W 0 (fun _=>true) true Tryz.f3.params.toList args.toList ds p:=hA0;have hlt:=hW'.lt;have hsz:(DataW.weightsEach Tryz.prog (Tryz.f3.params.toList++[]) (ds++gs)).all (· ≤reachBytes)=true:=hsz0;rw[Tryz.params3]at hA hval hsz;obtain⟨v0,vs0,d0,ds0,p0,q0,hargs,rfl,rfl,h0,r0⟩:=trodAll_cons hA;obtain⟨v1,vs1,d1,ds1,p1,q1,rfl,rfl,rfl,h1,r1⟩:=trodAll_cons r0;obtain⟨v2,vs2,d2,ds2,p2,q2,rfl,rfl,rfl,h2,r2⟩:=trodAll_cons r1;obtain⟨rfl,rfl,rfl⟩:=trodAll_nil r2;obtain rfl:args= #[v0,v1,v2]:=by cases args;simp_all
  obtain⟨rfl,rfl⟩:=trodVars_none hV;clear hA0 hval0;simp only[aaE]at hlt hsz;refine(walk W base hsh v0 d0 p0 (hval 0 22 v0 rfl rfl) h0 (fun x hx=>hlt x (by simp[hx])) v1 d1 p1 (hval 1 23 v1 rfl rfl) h1 (fun x hx=>hlt x (by simp[hx])) v2 d2 p2 (hval 2 23 v2 rfl rfl) h2 (fun x hx=>hlt x (by simp[hx])) hsz).mono fun e W' ⟨he,hb⟩=>⟨_,he,UA (P:=Tryz.prog) laidOut readable rfl hW' hb (T:=4) rfl Tryz.underlying4 rfl⟩
theorem jC {a b:Bool} (h:a=true) (k:b=true):(a&&b)=true:=by rw[h,k];rfl
theorem Uk {P:Program} {f:FuncId} {fn:Func} {s:ChangeSpec} {c:OpenClaim} (h1:(c.wf (OpenSpec.ofChange s))=true) (h2:(laidOutB P)=true) (h3:(mapsRowed P)=true) (h4:(fn.params.all (P.readableRec ·))=true) (h5:(namedTie P c.named s.vars)=true) (h6:((c.stops==[]))=true) (h7:((P.stops==[]))=true) (h8:((c.knobs==[]))=true) (h9:((P.stopKnobs==[]))=true) (h10:((c.inPlace==P.inPlace f))=true) (h11:((c.unfollowed==P.unfollowed f))=true) (h12:((c.recurses==P.recurses f))=true) (h13:((c.named==P.varsNamed f))=true) (X9:((c.maps==(fn.params.toList++s.plain.varTypes P).any (P.mapsRec ·)))=true) (h15:((c.ifaces==(fn.params.toList++s.plain.varTypes P).any (P.ifacesRec ·)))=true) (h16:((c.mapsOut==P.mapsAmong fn.resultTypes.toList))=true) (IC:((c.loops==(fn.params.toList++s.plain.varTypes P).any (P.loopsFrom ·)))=true) (h18:((c.wideKeys==(fn.params.toList++s.plain.varTypes P++fn.resultTypes.toList).any (P.wideKeysFrom ·)))=true) (h19:(s.vars.all (P.varReadable ·))=true) (h20:(fn.resultTypes.all (fun t=>P.readableRec t&&decide (t<P.types.size)))=true) (h21:((c.ifacesOut==fn.resultTypes.toList.any (P.ifacesRec ·)))=true) (h22:((c.loopsOut==fn.resultTypes.toList.any (P.loopsFrom ·)))=true) (h23:((c.plainKeys==P.plainKeys))=true) (h24:(c.shortTexts.isNone)=true) (h25:(P.stopsHeard)=true) (h26:(P.mayEnter)=true) (h27:((c.lifted==P.liftsFinal))=true) (h28:((P.make==some c.make))=true) (h29:((c.kinds==(if c.domain.isEmpty then[]else fn.params.toList.map fun t=>match P.underlying t with|some (.int k)=>some k|_=>none)))=true) (h30:((c.pinned==c.pinnedBy))=true) (h31:((c.veiled==(fn.params.toList++s.plain.varTypes P++fn.resultTypes.toList).any (P.veiledRec ·)))=true) (h32:(c.veiledFits P fn.params.toList (fn.params.toList++s.plain.varTypes P++fn.resultTypes.toList))=true):joinedFacts P f fn s c=true:=jC (jC (jC (jC (jC (jC (jC (jC (jC (jC (jC (jC (jC (jC (jC (jC (jC (jC (jC (jC (jC (jC (jC (jC (jC (jC (jC (jC (jC (jC (jC h1 h2) h3) h4) h5) h6) h7) h8) h9) h10) h11) h12) h13) X9) h15) h16) IC) h18) h19) h20) h21) h22) h23) h24) h25) h26) h27) h28) h29) h30) h31) h32
noncomputable abbrev Jf (F:Program→FuncId→Func→ChangeSpec→OpenClaim→Bool):Bool:=F Tryz.prog 3 Tryz.f3 (OpenSpec.ofChange Rows.topClockSpec).bare Rows.topClockRow
theorem j1:(Jf fun P f fn s c=>c.wf (OpenSpec.ofChange s))=true:=by kernel_rfl
theorem j2:(Jf fun P f fn s c=>laidOutB P)=true:=by kernel_rfl
theorem j3:(Jf fun P f fn s c=>mapsRowed P)=true:=by kernel_rfl
theorem j4:(Jf fun P f fn s c=>fn.params.all (P.readableRec ·))=true:=by kernel_rfl
theorem j5:(Jf fun P f fn s c=>namedTie P c.named s.vars)=true:=by kernel_rfl
theorem j6:(Jf fun P f fn s c=>(c.stops==[]))=true:=by kernel_rfl
theorem j7:(Jf fun P f fn s c=>(P.stops==[]))=true:=by kernel_rfl
theorem j8:(Jf fun P f fn s c=>(c.knobs==[]))=true:=by kernel_rfl
theorem j9:(Jf fun P f fn s c=>(P.stopKnobs==[]))=true:=by kernel_rfl
theorem j10:(Jf fun P f fn s c=>(c.inPlace==P.inPlace f))=true:=by kernel_rfl
theorem j11:(Jf fun P f fn s c=>(c.unfollowed==P.unfollowed f))=true:=by kernel_rfl
theorem j12:(Jf fun P f fn s c=>(c.recurses==P.recurses f))=true:=by kernel_rfl
theorem j13:(Jf fun P f fn s c=>(c.named==P.varsNamed f))=true:=by kernel_rfl
theorem j14:(Jf fun P f fn s c=>(c.maps==(fn.params.toList++s.plain.varTypes P).any (P.mapsRec ·)))=true:=by kernel_rfl
theorem j15:(Jf fun P f fn s c=>(c.ifaces==(fn.params.toList++s.plain.varTypes P).any (P.ifacesRec ·)))=true:=by kernel_rfl
theorem j16:(Jf fun P f fn s c=>(c.mapsOut==P.mapsAmong fn.resultTypes.toList))=true:=by kernel_rfl
theorem j17:(Jf fun P f fn s c=>(c.loops==(fn.params.toList++s.plain.varTypes P).any (P.loopsFrom ·)))=true:=by kernel_rfl
theorem j18:(Jf fun P f fn s c=>(c.wideKeys==(fn.params.toList++s.plain.varTypes P++fn.resultTypes.toList).any (P.wideKeysFrom ·)))=true:=by kernel_rfl
theorem j19:(Jf fun P f fn s c=>s.vars.all (P.varReadable ·))=true:=by kernel_rfl
theorem j20:(Jf fun P f fn s c=>fn.resultTypes.all (fun t=>P.readableRec t&&decide (t<P.types.size)))=true:=by kernel_rfl
theorem j21:(Jf fun P f fn s c=>(c.ifacesOut==fn.resultTypes.toList.any (P.ifacesRec ·)))=true:=by kernel_rfl
theorem j22:(Jf fun P f fn s c=>(c.loopsOut==fn.resultTypes.toList.any (P.loopsFrom ·)))=true:=by kernel_rfl
theorem j23:(Jf fun P f fn s c=>(c.plainKeys==P.plainKeys))=true:=by kernel_rfl
theorem j24:(Jf fun P f fn s c=>c.shortTexts.isNone)=true:=by kernel_rfl
theorem j25:(Jf fun P f fn s c=>P.stopsHeard)=true:=by kernel_rfl
theorem j26:(Jf fun P f fn s c=>P.mayEnter)=true:=by kernel_rfl
theorem j27:(Jf fun P f fn s c=>(c.lifted==P.liftsFinal))=true:=by kernel_rfl
theorem j28:(Jf fun P f fn s c=>(P.make==some c.make))=true:=by kernel_rfl
theorem j29:(Jf fun P f fn s c=>(c.kinds==(if c.domain.isEmpty then[]else fn.params.toList.map fun t=>match P.underlying t with|some (.int k)=>some k|_=>none)))=true:=by kernel_rfl
theorem j30:(Jf fun P f fn s c=>(c.pinned==c.pinnedBy))=true:=by kernel_rfl
theorem j31:(Jf fun P f fn s c=>(c.veiled==(fn.params.toList++s.plain.varTypes P++fn.resultTypes.toList).any (P.veiledRec ·)))=true:=by kernel_rfl
theorem j32:(Jf fun P f fn s c=>c.veiledFits P fn.params.toList (fn.params.toList++s.plain.varTypes P++fn.resultTypes.toList))=true:=by kernel_rfl
theorem jall:joinedFacts Tryz.prog 3 Tryz.f3 (OpenSpec.ofChange Rows.topClockSpec).bare Rows.topClockRow=true:=Uk j1 j2 j3 j4 j5 j6 j7 j8 j9 j10 j11 j12 j13 j14 j15 j16 j17 j18 j19 j20 j21 j22 j23 j24 j25 j26 j27 j28 j29 j30 j31 j32
theorem said:Rows.TopClockSaid:=
  OpenClaim.holds_of_cond 3 Tryz.f3 rfl rfl rfl rfl rfl rfl rfl ⟨rfl,rfl,rfl,rfl,rfl⟩ rfl rfl rfl rfl rfl (by kernel_rfl) Tryz.func3 jall
    (of_decide_eq_true (by kernel_rfl)) (by unfold Func.isWrapper;rw[if_neg (of_decide_eq_false (by kernel_rfl))];exact⟨rfl,rfl⟩)
    (fun os started H enc _ F=>by rw[OpenClaim.pre_eq_preRow];exact lifted os started H enc F)
theorem plain (f:FuncId) (fn:Func) (hf:Tryz.pinned.checked.prog.funcNamed "permafrost/permafrosttop.TopClock" =some f) (hfn:Tryz.pinned.checked.prog.funcs[f]? =some fn):
    true=Tryz.pinned.checked.prog.looks []∧∀(j:Nat) t,fn.params[j]? =some t→Tryz.pinned.checked.prog.wantsStandIn t=false:=by
  obtain rfl:f=3:=Option.some.inj ((show Tryz.prog.funcNamed "permafrost/permafrosttop.TopClock" =some 3 by kernel_rfl).symm.trans hf)|>.symm;obtain rfl:fn=Tryz.f3:=(aaH (Tryz.func3.symm.trans hfn)).symm;refine⟨by kernel_rfl,fun j t ht=> ?_⟩;rw[Tryz.params3]at ht;have hm:=Array.mem_of_getElem? ht;simp only[List.mem_toArray,aaq,abv,or_false]at hm;rcases hm with rfl|rfl|rfl
  ·exact(show Tryz.prog.wantsStandIn 22=false by kernel_rfl)
  ·exact(show Tryz.prog.wantsStandIn 23=false by kernel_rfl)
  ·exact(show Tryz.prog.wantsStandIn 23=false by kernel_rfl)
theorem proved:Rows.TopClockCardSaid:=
  Claim7.holds_tied_plain_at .later [] _ _ _ _ said (fun _ h=>by cases h) (by kernel_rfl) (fun _ h=>by cases h) topClock_row_tie rfl ⟨rfl,rfl⟩ (by kernel_rfl) rfl plain (by kernel_rfl)
#print axioms proved
end Go.Proofs.YtmflaonodghbcaaGreatDoor.topClock
