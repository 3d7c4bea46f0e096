/- package -/
import Derived.Test.YtjnhnlabpccgjaaGreatDoorM26
import Derived.Test.YtjnhnlabpccgjaaGreatDoorM01
import Derived.Test.YtjnhnlabpccgjaaGreatDoorM12
import Derived.Test.YtjnhnlabpccgjaaGreatDoorProg
import Derived.Shelf.Spec.SlicesGrow
import Derived.Test.YtjnhnlabpccgjaaGreatDoorM21
import Derived.Test.YtjnhnlabpccgjaaGreatDoorM18
set_option maxRecDepth 100000
set_option maxHeartbeats 64000000
set_option linter.all false
namespace Go.Proofs.YtjnhnlabpccgjaaGreatDoor
open Go.ChangeShapes Go.WideShapes Go.ChangeAt Go.RowKit
def Du(M:dS)(T:aL)(ls:List Nm):rZ×dS:=
 if (aQ T ls).2≠0 then(bR (aQ T ls).2,M)else
 match aj (aQ T ls).1 T with
 |none=>(bR 25,M)
 |some y=>if y.kind=2 then(bR 22,M)else if y.closed=false then(bR 25,M)else
  (⟨0,nT M,[],[],none⟩,M.put (nT M).toNat (some ⟨false,0,jZ T (aQ T ls).1 0 y.b.length⟩))
def jq(M:dS)(ls:List Nm)(id:Int):rZ×dS:=match jc M id with
 |none=>(bR 29,M)
 |some T=>if nT M<0 then(bR 25,M)else Du M T ls
section
variable{W w:World}{o:Mark}{i j k l p:Nat}{M:dS}
theorem PW{S:Nat→Prop}(hS:bZ o i j k w p M)(hM:Marks W o w)(hk:Mk i j k l)(hok:dG M.t)(uW:M.s.l.length≤1000)(a:Option Addr)(n c:Nat)(ls:List Nm)(hls:aK S w a n (ls.map strOf))(id:Int)(hid:∀T,jc M id=some T→(Lit.int .i64 (aQ T ls).1).wf=true):
  Calls Tryz.prog 73 #[ptr p,.slice a n c,.int .i64 id] w (FL o i j k l w p (jq M ls id)):=by
 have HKK:=acA hk;have HM:=acA hM;have HS:=acA hS;obtain⟨w2,hw2⟩:∃w2,w2=w.alloc (.cells (eu (bR 0) none none 0 0) 41):=⟨_,rfl⟩;have hb2:Below w.heap.size w w2:=by rw[hw2];exact wall w _
 have hre:w2.heap[w.heap.size]? =some (.cells (eu (bR 0) none none 0 0) 41 (0,0)):=by rw[hw2];exact(MapKept.heap_alloc w _).1
 obtain⟨n1,n2,n3,n4,n5,n6,n7,n8,n9,n10⟩:=hk.ne;obtain⟨o1,hs1,hl1,hl2⟩:=gW HM.o l (fun b=>b=w.heap.size) (w':=w2) (fun b hb=>by subst hb;exact⟨Nat.le_refl _,(iA.1 hre).1⟩) hb2;have hS1:bZ o1 i j k w2 p M:=HS.o.step (fun e=>n4 e.symm) n7 n9 n10 hs1;have hM1:Marks W o1 w2:=HM.o.step (fun e=>n4 e.symm) hs1;have HAT:acB (Calls Tryz.prog 141 #[ptr p,.int .i64 id] (w.alloc (.cells (eu (bR 0) none none 0 0) 41)) (AtRet o1 j w2 M id)):=by rw[←hw2];exact acA (TV hS1 hM1 hok uW id)
 unfold eu bR at HAT;dsimp only[List.length_nil]at HAT;have K5:=acA (hls.below hb2 acC);have sU:=acA hre;have HB2:=acA hb2;have jI:=acA hS1;have pz:=acA hM1;have zm:=acA (hl1 _ rfl);have w_:=acA hs1;have Di:=acA hid;have nD:acB (∀(z:rZ) (w4 w5:World),Below w2.heap.size w2 w4→jo w4 w.heap.size (eu z none none 0 0) 41 w5→z.data=[]→z.names=[]→FL o i j k l w p (z,M) (.returned (.agg (eu z none none 0 0))) w5):=fun z w4 w5 hb hs hz1 hz2=>by
  have xC:=pz.o.step (I:=fun _=>False) (fun e=>e) (Step.grow pz.o hb);have hst:=hs.step xC zm.o;have oh:=(jI.o.grow pz.o hb).step (fun e=>n4 e.symm) n7 n9 n10 hst;refine⟨o1,⟨_,rfl,none,none,0,0,rfl,by rw[hz1];exact Nat.le_refl _,by rw[hz2];exact Nat.le_refl _,by rw[hz1];exact ah.nil _ _ _,by rw[hz2];exact jO _ _⟩,((w_.o.trans (Step.grow pz.o hb)).trans hst).mono fun m hm=> .inr (.inr (.inr hm)),oh⟩
 clear hS hM hk hok uW hls hid hre hb2 hw2 hS1 hM1 hl1 hl2 hs1;go_enter Tryz.func73,Tryz.ntmps73;go_wp2_with fail;refine HAT.o.mono ?_;rintro e w3 ⟨hb3,hat⟩;have HB3:=acA hb3;have HR3:=acA ((hb3.block _ (iA.1 sU.o).1).trans sU.o);rcases hat with⟨hT,rfl⟩|⟨T,q,hT,rfl,⟨m,hTr⟩,TW⟩
 ·have HT:=acA hT;clear hT hb3;go_wp2_with fail;refine(iZ _ _).mono ?_;rintro e w9 ⟨rfl,cO⟩;unfold mG;have uL:=acA (HB3.o.trans (cO.mono HB3.o.size));have fQ:=acA ((cO.block _ (iA.1 HR3.o).1).trans HR3.o);clear cO;go_wp2_with (refine ak (by rfl) 41 _ _ (by rfl) w.heap.size (eu (bR 29) none none 0 0) (by rfl) (by rfl) _ fQ.o bH rfl (bI _ _ _ _ _) ?_;intro Dj jJ;have n_:=acA jJ;clear jJ);refine bX rfl rfl rfl n_.o.1 ?_;have e2:jq M ls id=(bR 29,M):=by unfold jq;rw[HT.o]
  rw[e2];exact nD.o _ _ _ uL.o n_.o rfl rfl
 ·have HFR:=acA (JO (jI.o.grow pz.o hb3));obtain⟨g,D,mb,ib,nb,hA,-,-⟩:=hTr;have hid:=Di.o T hT;have mg:acB (∀w',Below w3.heap.size w3 w'→Calls Tryz.prog 142 #[ptr q,.slice a n c] w' fun e w''=>e= .returned (.tuple #[.int .i64 (aQ T ls).1,.int .i64 (aQ T ls).2])∧Below w'.heap.size w' w''):=fun w' hb=>Gz a n c ls w' (hA.below hb acC) TW ((K5.o.below hb3 acC).below hb acC);have uT:acB (∀w',Below w3.heap.size w3 w'→Calls Tryz.prog 143 #[ptr q,.int .i64 (aQ T ls).1] w' fun e w''=>e= .returned (.tuple #[gq T (aQ T ls).1,.bool (aj (aQ T ls).1 T).isSome])∧Below w'.heap.size w' w''):=fun w' hb=>yO _ w' (hA.below hb acC) hid;have uY:acB (∀w' (N:Int),(Lit.int .i64 N).wf=true→Below w3.heap.size w3 w'→Calls Tryz.prog 144 #[ptr q,.int .i64 (aQ T ls).1,.int .i64 0,.int .i64 N] w' (tV w' (jZ T (aQ T ls).1 0 N) (uJ T (aQ T ls).1 0 N))):=fun w' N hN hb=>Sg _ 0 N w' (hA.below hb acC) (fun x hx=>(TW.each _ x hx).size) hid (by decide) hN;have HYL:acB (∀y,aj (aQ T ls).1 T=some y→y.b.length≤4096):=fun y hy=>(TW.each _ y hy).size;have HT:=acA hT;have Xx:=acA hb3;clear hT hA TW hid hb3;go_wp2_with fail;refine HFR.o.mono ?_;rintro e w4 ⟨v,rfl,hfr,rfl⟩;have hv:=hfr.eq;rcases hfr with⟨rfl,hfull⟩|⟨fm,Gw,rfl,hfm,hfl⟩
  ·have HV:=acA hv;clear hv hfull;go_wp2_with fail;refine(iZ _ _).mono ?_;rintro e w9 ⟨rfl,cO⟩;unfold mG;have uL:=acA (HB3.o.trans (cO.mono HB3.o.size));have fQ:=acA ((cO.block _ (iA.1 HR3.o).1).trans HR3.o);clear cO;go_wp2_with (refine ak (by rfl) 41 _ _ (by rfl) w.heap.size (eu (bR 25) none none 0 0) (by rfl) (by rfl) _ fQ.o bH rfl (bI _ _ _ _ _) ?_;intro Dj jJ;have n_:=acA jJ;clear jJ);refine bX rfl rfl rfl n_.o.1 ?_;have e2:jq M ls id=(bR 25,M):=by unfold jq;rw[HT.o];exact if_pos (by rw[←HV.o];omega)
   rw[e2];exact nD.o _ _ _ uL.o n_.o rfl rfl
  ·have HV:=acA hv;have hdn:decide ((fm:Int)<0)=false:=by simp
   have hneg:¬((fm:Int)<0):=by omega
   have TY:acB (jq M ls id=Du M T ls):=by unfold jq;rw[HT.o];exact acA (if_neg (by rw[←HV.o];omega))
   have HLK2:=acA (mg.o w4 acD);clear hv hfm hfl;unfold Du at TY;obtain⟨ki,hki⟩:∃ki,ki=(aQ T ls).1:=⟨_,rfl⟩;obtain⟨ke,hke⟩:∃ke,ke=(aQ T ls).2:=⟨_,rfl⟩;rw[←hki,←hke]at HLK2 TY;rw[←hki]at uT uY HYL;clear hki hke;go_wp2_with fail;refine HLK2.o.mono ?_;rintro e w5 ⟨rfl,hb5⟩;have Ao:=acA hb5;have fH:=acA (HB3.o.trans (hb5.mono HB3.o.size));have mP:=acA ((hb5.block _ (iA.1 HR3.o).1).trans HR3.o);clear hb5;by_cases hz:ke=0
   ·have HZ:=acA hz;have hz2:(ke !=0)=false:=by simpa using hz
    clear hz;have HN:=acA (uT.o _ Ao.o);cases ha:aj ki T with
    |none=>
     have hnm:gq T ki= .agg #[.int .i64 0,.int .i64 0,.int .i64 0,.int .i64 0,.int .u64 0,.bool false]:=by unfold gq;rw[ha]
     rw[hnm]at HN;have HA:=acA ha;clear ha hnm;go_wp2_with fail;refine HN.o.mono ?_;rintro e w6 ⟨rfl,hb6⟩;have zn:Below w5.heap.size w5 (w6.alloc (.cells #[.int .i64 0,.int .i64 0,.int .i64 0,.int .i64 0,.int .u64 0,.bool false] 39)):=hb6.trans ((wall w6 _).mono hb6.size);have JW:=acA (Ao.o.trans (zn.mono Ao.o.size));have mM:=acA (fH.o.trans (zn.mono fH.o.size));have Dv:=acA ((zn.block _ (iA.1 mP.o).1).trans mP.o);clear zn hb6;go_wp2_with fail;refine(iZ _ _).mono ?_;rintro e w9 ⟨rfl,cO⟩;unfold mG;have uL:=acA (mM.o.trans (cO.mono mM.o.size));have fQ:=acA ((cO.block _ (iA.1 Dv.o).1).trans Dv.o);clear cO;go_wp2_with (refine ak (by rfl) 41 _ _ (by rfl) w.heap.size (eu (bR 25) none none 0 0) (by rfl) (by rfl) _ fQ.o bH rfl (bI _ _ _ _ _) ?_;intro Dj jJ;have n_:=acA jJ;clear jJ);refine bX rfl rfl rfl n_.o.1 ?_;have e2:jq M ls id=(bR 25,M):=TY.o.trans ((if_neg (fun h=>h HZ.o)).trans (by rw[HA.o]));rw[e2];exact nD.o _ _ _ uL.o n_.o rfl rfl
    |some y=>
     cases hcl:y.closed with
     |false=>
      have Py:=acA hcl;have hnm:gq T ki= .agg #[.int .i64 ki,.int .i64 y.kind,.int .i64 y.links,.int .i64 y.b.length,.int .u64 y.aA,.bool false]:=by unfold gq;rw[ha];show j_ ki y=_;unfold j_;rw[hcl]
      clear hcl;rw[hnm]at HN;have HA:=acA ha;clear ha hnm;go_wp2_with fail;refine HN.o.mono ?_;rintro e w6 ⟨rfl,hb6⟩;have zn:Below w5.heap.size w5 (w6.alloc (.cells #[.int .i64 ki,.int .i64 y.kind,.int .i64 y.links,.int .i64 y.b.length,.int .u64 y.aA,.bool false] 39)):=hb6.trans ((wall w6 _).mono hb6.size);have JW:=acA (Ao.o.trans (zn.mono Ao.o.size));have mM:=acA (fH.o.trans (zn.mono fH.o.size));have Dv:=acA ((zn.block _ (iA.1 mP.o).1).trans mP.o);clear zn hb6;by_cases hk:y.kind=2
      ·have HK:=acA hk;have hk2:(y.kind==2)=true:=by simpa using hk
       clear hk;go_wp2_with fail;refine(iZ _ _).mono ?_;rintro e w9 ⟨rfl,cO⟩;unfold mG;have uL:=acA (mM.o.trans (cO.mono mM.o.size));have fQ:=acA ((cO.block _ (iA.1 Dv.o).1).trans Dv.o);clear cO;go_wp2_with (refine ak (by rfl) 41 _ _ (by rfl) w.heap.size (eu (bR 22) none none 0 0) (by rfl) (by rfl) _ fQ.o bH rfl (bI _ _ _ _ _) ?_;intro Dj jJ;have n_:=acA jJ;clear jJ);refine bX rfl rfl rfl n_.o.1 ?_;have e2:jq M ls id=(bR 22,M):=TY.o.trans ((if_neg (fun h=>h HZ.o)).trans (by rw[HA.o];exact if_pos HK.o));rw[e2];exact nD.o _ _ _ uL.o n_.o rfl rfl
      ·have HK:=acA hk;have hk2:(y.kind==2)=false:=by simpa using hk
       clear hk;go_wp2_with fail;refine(iZ _ _).mono ?_;rintro e w9 ⟨rfl,cO⟩;unfold mG;have uL:=acA (mM.o.trans (cO.mono mM.o.size));have fQ:=acA ((cO.block _ (iA.1 Dv.o).1).trans Dv.o);clear cO;go_wp2_with (refine ak (by rfl) 41 _ _ (by rfl) w.heap.size (eu (bR 25) none none 0 0) (by rfl) (by rfl) _ fQ.o bH rfl (bI _ _ _ _ _) ?_;intro Dj jJ;have n_:=acA jJ;clear jJ);refine bX rfl rfl rfl n_.o.1 ?_;have e2:jq M ls id=(bR 25,M):=TY.o.trans ((if_neg (fun h=>h HZ.o)).trans (by rw[HA.o];exact(if_neg HK.o).trans (if_pos Py.o)));rw[e2];exact nD.o _ _ _ uL.o n_.o rfl rfl
     |true=>
      have Py:=acA hcl;have hnm:gq T ki= .agg #[.int .i64 ki,.int .i64 y.kind,.int .i64 y.links,.int .i64 y.b.length,.int .u64 y.aA,.bool true]:=by unfold gq;rw[ha];show j_ ki y=_;unfold j_;rw[hcl]
      clear hcl;rw[hnm]at HN;have HA:=acA ha;clear ha hnm;go_wp2_with fail;refine HN.o.mono ?_;rintro e w6 ⟨rfl,hb6⟩;have zn:Below w5.heap.size w5 (w6.alloc (.cells #[.int .i64 ki,.int .i64 y.kind,.int .i64 y.links,.int .i64 y.b.length,.int .u64 y.aA,.bool true] 39)):=hb6.trans ((wall w6 _).mono hb6.size);have JW:=acA (Ao.o.trans (zn.mono Ao.o.size));have mM:=acA (fH.o.trans (zn.mono fH.o.size));have Dv:=acA ((zn.block _ (iA.1 mP.o).1).trans mP.o);clear zn hb6;by_cases hk:y.kind=2
      ·have HK:=acA hk;have hk2:(y.kind==2)=true:=by simpa using hk
       clear hk;go_wp2_with fail;refine(iZ _ _).mono ?_;rintro e w9 ⟨rfl,cO⟩;unfold mG;have uL:=acA (mM.o.trans (cO.mono mM.o.size));have fQ:=acA ((cO.block _ (iA.1 Dv.o).1).trans Dv.o);clear cO;go_wp2_with (refine ak (by rfl) 41 _ _ (by rfl) w.heap.size (eu (bR 22) none none 0 0) (by rfl) (by rfl) _ fQ.o bH rfl (bI _ _ _ _ _) ?_;intro Dj jJ;have n_:=acA jJ;clear jJ);refine bX rfl rfl rfl n_.o.1 ?_;have e2:jq M ls id=(bR 22,M):=TY.o.trans ((if_neg (fun h=>h HZ.o)).trans (by rw[HA.o];exact if_pos HK.o));rw[e2];exact nD.o _ _ _ uL.o n_.o rfl rfl
      ·have HK:=acA hk;have hk2:(y.kind==2)=false:=by simpa using hk
       clear hk;have HRC:=acA (uY.o _ (y.b.length:Int) (jU (by have:=HYL.o y HA.o;omega) (by have:=HYL.o y HA.o;omega)) JW.o);go_wp2_with fail;refine HRC.o.mono ?_;rintro e w8 ⟨ra,rn,rc,rfl,hrn,hrr,sP⟩;have hrl:(jZ T ki 0 y.b.length).length=rn:=by have:=hrr.length;simpa using this
       have rD:=acA (mM.o.trans (sP.mono mM.o.size));have BP:=acA ((sP.block _ (iA.1 Dv.o).1).trans Dv.o);have hM8:=pz.o.step (I:=fun _=>False) (fun e=>e) (Step.grow pz.o rD.o);have S_:=jI.o.grow pz.o rD.o;have EO:Below w8.heap.size w8 (w8.alloc (.cells #[.bool false,.int .i64 0,.slice ra rn rc] 186)):=wall w8 _;have HM9:=acA (hM8.step (I:=fun _=>False) (fun e=>e) (Step.grow hM8 EO));have hfree:o1 w8.heap.size=0:=aaj fun h9=>by have:=(hM8.new _ h9).2;omega
       have Pg:=pz.o.step (I:=fun _=>False) (fun e=>e) (Step.grow pz.o mM.o);have hrow:ah (Free o1 (w8.alloc (.cells #[.bool false,.int .i64 0,.slice ra rn rc] 186))) (w8.alloc (.cells #[.bool false,.int .i64 0,.slice ra rn rc] 186)) ra rn ((jZ T ki 0 y.b.length).map bv):=(ah.Jh Pg hrr).move EO.size fun b hb hbw=>⟨⟨hb.1,Pd hb.2 EO.size⟩,EO.block b hbw⟩;have qz:zi o1 (w8.alloc (.cells #[.bool false,.int .i64 0,.slice ra rn rc] 186)) (ptr w8.heap.size) (some ⟨false,0,jZ T ki 0 y.b.length⟩):=by
        refine⟨w8.heap.size,ra,rc,rfl,hfree,by simp,?_,by rw[hrl];exact hrn,by rw[hrl];exact hrow⟩;rw[hrl];exact(MapKept.heap_alloc w8 _).1
       have qm:=acA ((S_.grow hM8 EO).put HM9.o HKK.o fm Gw (ptr w8.heap.size) _ qz);obtain⟨t',s',v',k1,k2,k3,k4⟩:=(S_.grow hM8 EO).at_;obtain⟨y0,y1,y2,y3,y4⟩:=gF k1;have hzm:=y3 fm Gw;have hzf:=y4 (3+fm);have fQ:acB (((w8.alloc (.cells #[.bool false,.int .i64 0,.slice ra rn rc] 186)).setCell ⟨p,3+fm,none⟩ (ptr w8.heap.size)).heap[w.heap.size]? =some (.cells (eu (bR 0) none none 0 0) 41 (0,0))):=acA ((qm.o.1.block (b:=w.heap.size) (Pd (iA.1 BP.o).1 EO.size) (by rw[zm.o];exact fun e=>n10 e.symm)).trans ((EO.block _ (iA.1 BP.o).1).trans BP.o));have i0:(0:Int)≤fm:=by omega
       have i1:(fm:Int)<8:=by omega
       have uL:=acA (rD.o.trans (EO.mono rD.o.size));clear k1 k2 k3 k4 S_ hM8 hfree y0 y1 y2 y3 y4 EO hrow qz hrr sP hrl Pg;go_wp2_with (refine ak (by rfl) 41 _ _ (by rfl) w.heap.size (eu ⟨0,fm,[],[],none⟩ none none 0 0) (by rfl) (by rfl) _ fQ.o bH rfl (bI _ _ _ _ _) ?_;intro Dj jJ;have n_:=acA jJ;clear jJ);refine bX rfl rfl rfl n_.o.1 ?_;have e2:jq M ls id=(⟨0,fm,[],[],none⟩,M.put fm (some ⟨false,0,jZ T ki 0 y.b.length⟩)):=by
        refine TY.o.trans ((if_neg (fun h=>h HZ.o)).trans ?_);rw[HA.o];refine(if_neg HK.o).trans ((if_neg (by rw[Py.o];simp)).trans ?_);rw[←HV.o];rfl
       rw[e2];have hM10:=HM9.o.step (I:=fun m=>m=k) (fun e=>n3 e.symm) qm.o.1;have hst:=n_.o.step hM10 zm.o;exact⟨o1,⟨_,rfl,none,none,0,0,rfl,Nat.le_refl _,Nat.le_refl _,ah.nil _ _ _,jO _ _⟩,(((w_.o.mono fun m hm=> .inr (.inr (.inr hm))).trans (Step.grow pz.o uL.o)).trans (qm.o.1.mono fun m hm=> .inr (.inr (.inl hm)))).trans (hst.mono fun m hm=> .inr (.inr (.inr hm))),qm.o.2.step (fun e=>n4 e.symm) n7 n9 n10 hst⟩
   ·have HZ:=acA hz;have hz2:(ke !=0)=true:=by simpa using hz
    clear hz;go_wp2_with fail;refine(iZ _ _).mono ?_;rintro e w9 ⟨rfl,cO⟩;unfold mG;have uL:=acA (fH.o.trans (cO.mono fH.o.size));have fQ:=acA ((cO.block _ (iA.1 mP.o).1).trans mP.o);clear cO;go_wp2_with (refine ak (by rfl) 41 _ _ (by rfl) w.heap.size (eu (bR ke) none none 0 0) (by rfl) (by rfl) _ fQ.o bH rfl (bI _ _ _ _ _) ?_;intro Dj jJ;have n_:=acA jJ;clear jJ);refine bX rfl rfl rfl n_.o.1 ?_;have e2:jq M ls id=(bR ke,M):=TY.o.trans (if_pos HZ.o);rw[e2];exact nD.o _ _ _ uL.o n_.o rfl rfl
end
def JX(a b:Int):Bool:=decide (b≤a)
def Dw(now tick:Int):Int:=if tick≤1099511627776 then max now tick else now
theorem wP(t:Int)(w:World):
  Calls Tryz.prog 56 #[.int .u64 t] w fun e w'=>e= .returned (.bool (decide (t≤1099511627776)))∧w=w':=by
 go_enter Tryz.func56,Tryz.ntmps56;go_wp2;go_ret;exact⟨rfl,rfl⟩
theorem uf(a b:Int)(w:World):
  Calls Tryz.prog 192 #[.int .u64 a,.int .u64 b] w fun e w'=>e= .returned (.bool (JX a b))∧w=w':=by
 go_enter Tryz.func192,Tryz.ntmps192;go_wp2;go_ret;exact⟨rfl,rfl⟩
theorem T9(a b:Int)(w:World):
  Calls Tryz.prog 85 #[.int .u64 a,.int .u64 b] w fun e w'=>e= .returned (.int .u64 (Dw a b))∧w=w':=by
 by_cases h:b≤1099511627776
 ·go_enter Tryz.func85,Tryz.ntmps85;go_wp2
  all_goals
   go_ret;exact⟨dX (by unfold Dw;split<;>omega),rfl⟩
 ·go_enter Tryz.func85,Tryz.ntmps85;go_wp2
  all_goals
   go_ret;exact⟨dX (by unfold Dw;split<;>omega),rfl⟩
def kindOf(k:Int):Int:=if k=1 then 0 else if k=2 then 22 else 30
def gY(k l u:Int)(c:Bool)(now:Int):Int:=if k=1∧c=true∧l≤1∧now<u then 28 else kindOf k
def nN(k u:Int)(c:Bool)(till:Int):Int:=
 if k=1 then(if c=false then 25 else if till<u then 28 else if 1099511627776<till then 1 else 0)else kindOf k
theorem kQ(i k l s u:Int)(c:Bool)(w:World):
  Calls Tryz.prog 191 #[.agg #[.int .i64 i,.int .i64 k,.int .i64 l,.int .i64 s,.int .u64 u,.bool c]] w fun e w'=>e= .returned (.int .i64 (kindOf k))∧w.alloc (.cells #[.int .i64 i,.int .i64 k,.int .i64 l,.int .i64 s,.int .u64 u,.bool c] 39)=w':=by
 by_cases h1:k=1
 ·subst h1;go_enter Tryz.func191,Tryz.ntmps191;go_wp2;go_ret;exact⟨rfl,rfl⟩
 ·by_cases h2:k=2
  ·subst h2;go_enter Tryz.func191,Tryz.ntmps191;go_wp2;go_ret;exact⟨rfl,rfl⟩
  ·have e1:(k==1)=false:=by simp[h1]
   have e2:(k==2)=false:=by simp[h2]
   go_enter Tryz.func191,Tryz.ntmps191;go_wp2;go_ret;exact⟨dX (by simp[kindOf,h1,h2]),rfl⟩
theorem lq:kindOf 1=0:=rfl
theorem FP(k:Int)(h:k≠1):(kindOf k==0)=false∧(kindOf k !=0)=true:=by
 unfold kindOf;rw[if_neg h];split<;>decide
theorem JY(i k l s u:Int)(c:Bool)(now:Int)(w:World):
  Calls Tryz.prog 151 #[.agg #[.int .i64 i,.int .i64 k,.int .i64 l,.int .i64 s,.int .u64 u,.bool c],.int .u64 now] w fun e w'=>e= .returned (.int .i64 (gY k l u c now))∧Below w.heap.size w w':=by
 by_cases h1:k=1
 ·subst h1;cases c
  ·go_enter Tryz.func151,Tryz.ntmps151;go_wp2_with (first|(go_at_call 191;refine(kQ _ _ _ _ _ _ _).mono ?_;rintro e w' ⟨rfl,rfl⟩;rw[lq])|(go_at_call 192;refine(uf _ _ _).mono ?_;rintro e w' ⟨rfl,rfl⟩));go_ret;exact⟨dX (by simp[gY,kindOf]),by repeat (first|exact Below.refl _ _|refine aby ?_ (by simp) _)⟩
  ·by_cases h2:l≤1
   ·cases h3:JX now u
    ·have h4:now<u:=by simp[JX]at h3;omega
     have H:=acA h4;clear h4;go_enter Tryz.func151,Tryz.ntmps151;go_wp2_with (first|(go_at_call 191;refine(kQ _ _ _ _ _ _ _).mono ?_;rintro e w' ⟨rfl,rfl⟩;rw[lq])|(go_at_call 192;refine(uf _ _ _).mono ?_;rintro e w' ⟨rfl,rfl⟩));go_ret;exact⟨dX (by have:=H.o;simp[gY, *]),by repeat (first|exact Below.refl _ _|refine aby ?_ (by simp) _)⟩
    ·have h4:¬now<u:=by simp[JX]at h3;omega
     have H:=acA h4;clear h4;go_enter Tryz.func151,Tryz.ntmps151;go_wp2_with (first|(go_at_call 191;refine(kQ _ _ _ _ _ _ _).mono ?_;rintro e w' ⟨rfl,rfl⟩;rw[lq])|(go_at_call 192;refine(uf _ _ _).mono ?_;rintro e w' ⟨rfl,rfl⟩));go_ret;exact⟨dX (by have:=H.o;simp[gY,kindOf, *]),by repeat (first|exact Below.refl _ _|refine aby ?_ (by simp) _)⟩
   ·go_enter Tryz.func151,Tryz.ntmps151;go_wp2_with (first|(go_at_call 191;refine(kQ _ _ _ _ _ _ _).mono ?_;rintro e w' ⟨rfl,rfl⟩;rw[lq])|(go_at_call 192;refine(uf _ _ _).mono ?_;rintro e w' ⟨rfl,rfl⟩));go_ret
    exact⟨dX (by have:¬l≤1:=by omega
                 simp[gY,kindOf,this]),by repeat (first|exact Below.refl _ _|refine aby ?_ (by simp) _)⟩
 ·have e1:=(FP k h1).1;go_enter Tryz.func151,Tryz.ntmps151;go_wp2_with (first|(go_at_call 191;refine(kQ _ _ _ _ _ _ _).mono ?_;rintro e w' ⟨rfl,rfl⟩)|(go_at_call 192;refine(uf _ _ _).mono ?_;rintro e w' ⟨rfl,rfl⟩));go_ret;exact⟨dX (by simp[gY,h1]),by repeat (first|exact Below.refl _ _|refine aby ?_ (by simp) _)⟩
theorem PX(i k l s u:Int)(c:Bool)(till:Int)(w:World):
  Calls Tryz.prog 156 #[.agg #[.int .i64 i,.int .i64 k,.int .i64 l,.int .i64 s,.int .u64 u,.bool c],.int .u64 till] w fun e w'=>e= .returned (.int .i64 (nN k u c till))∧Below w.heap.size w w':=by
 by_cases h1:k=1
 ·subst h1;cases c
  ·go_enter Tryz.func156,Tryz.ntmps156;go_wp2_with (first|(go_at_call 191;refine(kQ _ _ _ _ _ _ _).mono ?_;rintro e w' ⟨rfl,rfl⟩;rw[lq])|(go_at_call 56;refine(wP _ _).mono ?_;rintro e w' ⟨rfl,rfl⟩));go_ret;exact⟨dX (by simp[nN]),by repeat (first|exact Below.refl _ _|refine aby ?_ (by simp) _)⟩
  ·by_cases h2:till<u
   ·go_enter Tryz.func156,Tryz.ntmps156;go_wp2_with (first|(go_at_call 191;refine(kQ _ _ _ _ _ _ _).mono ?_;rintro e w' ⟨rfl,rfl⟩;rw[lq])|(go_at_call 56;refine(wP _ _).mono ?_;rintro e w' ⟨rfl,rfl⟩));go_ret;exact⟨dX (by simp[nN, *]),by repeat (first|exact Below.refl _ _|refine aby ?_ (by simp) _)⟩
   ·by_cases h3:till≤1099511627776
    ·have H:=acA h2;go_enter Tryz.func156,Tryz.ntmps156;go_wp2_with (first|(go_at_call 191;refine(kQ _ _ _ _ _ _ _).mono ?_;rintro e w' ⟨rfl,rfl⟩;rw[lq])|(go_at_call 56;refine(wP _ _).mono ?_;rintro e w' ⟨rfl,rfl⟩));go_ret
     exact⟨dX (by have:=H.o;have:¬1099511627776<till:=by omega
                  simp[nN, *]),by repeat (first|exact Below.refl _ _|refine aby ?_ (by simp) _)⟩
    ·have H:=acA h2;have h5:decide (till≤1099511627776)=false:=by simp;omega
     go_enter Tryz.func156,Tryz.ntmps156;go_wp2_with (first|(go_at_call 191;refine(kQ _ _ _ _ _ _ _).mono ?_;rintro e w' ⟨rfl,rfl⟩;rw[lq])|(go_at_call 56;refine(wP _ _).mono ?_;rintro e w' ⟨rfl,rfl⟩));go_ret
     exact⟨dX (by have:=H.o;have:1099511627776<till:=by omega
                  simp[nN, *]),by repeat (first|exact Below.refl _ _|refine aby ?_ (by simp) _)⟩
 ·have e1:=(FP k h1).2;go_enter Tryz.func156,Tryz.ntmps156;go_wp2_with (go_at_call 191;refine(kQ _ _ _ _ _ _ _).mono ?_;rintro e w' ⟨rfl,rfl⟩);go_ret;exact⟨dX (by simp[nN,h1]),by repeat (first|exact Below.refl _ _|refine aby ?_ (by simp) _)⟩
structure JZ where
 i:Int
 k:Int
 l:Int
 s:Int
 u:Int
 c:Bool
 er:Int
def bU(T:aL)(ls:List Nm):JZ:=if (aQ T ls).2≠0 then⟨0,0,0,0,0,false,(aQ T ls).2⟩else match aj (aQ T ls).1 T with|some x=>⟨(aQ T ls).1,x.kind,x.links,x.b.length,x.aA,x.closed,0⟩|none=>⟨0,0,0,0,0,false,0⟩
def JZ.cells(x:JZ):Array Value:= #[.int .i64 x.i,.int .i64 x.k,.int .i64 x.l,.int .i64 x.s,.int .u64 x.u,.bool x.c]
theorem Dx(T:aL)(ls:List Nm):wO T ls=((bU T ls).cells,(bU T ls).er):=by
 unfold wO bU;by_cases h:(aQ T ls).2≠0
 ·rw[if_pos h,if_pos h];rfl
 ·rw[if_neg h,if_neg h];cases aj (aQ T ls).1 T<;>rfl
def gG(M:dS)(ls:List Nm):Int×dS:=
 if (bU M.t ls).er≠0 then((bU M.t ls).er,M)else
 if gY (bU M.t ls).k (bU M.t ls).l (bU M.t ls).u (bU M.t ls).c M.now≠0 then(gY (bU M.t ls).k (bU M.t ls).l (bU M.t ls).u (bU M.t ls).c M.now,M)else
 ((bC M.t ls).1,{M with t:=(bC M.t ls).2})
section
variable{W w:World}{o:Mark}{i j k l p:Nat}{M:dS}
theorem J2{S:Nat→Prop}(hS:bZ o i j k w p M)(hM:Marks W o w)(hk:Mk i j k l)(hok:dG M.t)(a:Option Addr)(n c:Nat)(ls:List Nm)(hls:aK S w a n (ls.map strOf))(hnc:n≤c)(lF:n≤1000000)(hid:(Lit.int .i64 (aQ M.t ls).1).wf=true):
  Calls Tryz.prog 78 #[ptr p,.slice a n c] w (JQ o i j k l w p (gG M ls)):=by
 have HN:=acA (FM hS hM hok a n c ls hls hid);rw[Dx]at HN;have HKK:=acA hk;have iM:=acA hok;have HM:=acA hM;have HS:=acA hS;have K5:=acA hls;have hr:gG M ls=gG M ls:=rfl
 conv at hr=>rhs;unfold gG
 have HR:=acA hr;clear hS hM hk hok hls hid hr;generalize bU M.t ls=X at HN HR;obtain⟨xi,xk,xl,xs,xu,xc,xe⟩:=X;unfold JZ.cells at HN;go_enter Tryz.func78,Tryz.ntmps78;go_wp2_with fail;refine HN.o.mono ?_;rintro e w1 ⟨rfl,hb1⟩;have HB1:=acA hb1;have HB2:acB (Below w.heap.size w (w1.alloc (.cells #[.int .i64 xi,.int .i64 xk,.int .i64 xl,.int .i64 xs,.int .u64 xu,.bool xc] 39))):=acA (hb1.trans ((wall _ _).mono hb1.size));obtain⟨n1,n2,n3,n4,n5,n6,n7,n8,n9,n10⟩:=HKK.o.ne;clear hb1 HN;by_cases hz:xe=0
 ·have HZ:=acA hz;have hz2:(xe==0)=true:=by simpa using hz
  clear hz;obtain⟨w2,hw2⟩:∃w2,w2=w1.alloc (.cells #[.int .i64 xi,.int .i64 xk,.int .i64 xl,.int .i64 xs,.int .u64 xu,.bool xc] 39):=⟨_,rfl⟩;have hnd:w2.heap[w1.heap.size]? =some (.cells #[.int .i64 xi,.int .i64 xk,.int .i64 xl,.int .i64 xs,.int .u64 xu,.bool xc] 39 (0,0)):=by rw[hw2];exact(MapKept.heap_alloc w1 _).1
  rw[←hw2]at HB2;have hS2:=HS.o.grow HM.o HB2.o;have hM2:=HM.o.step (I:=fun _=>False) (fun e=>e) (Step.grow HM.o HB2.o);obtain⟨t,s,v,h1,h2,h3,h4⟩:=hS2.at_;have hps:=hS2.low;have HC:acB (∀w',Below w2.heap.size w2 w'→w'.cell? ⟨w1.heap.size,0,none⟩=some (.int .i64 xi)∧w'.cell? ⟨w1.heap.size,1,none⟩=some (.int .i64 xk)∧w'.cell? ⟨w1.heap.size,2,none⟩=some (.int .i64 xl)∧w'.cell? ⟨w1.heap.size,3,none⟩=some (.int .i64 xs)∧w'.cell? ⟨w1.heap.size,4,none⟩=some (.int .u64 xu)∧w'.cell? ⟨w1.heap.size,5,none⟩=some (.bool xc)∧w'.cell? ⟨p,2,none⟩=some (.int .u64 M.now)∧w'.cell? ⟨p,0,none⟩=some (ptr t)):=fun w' hb=>by
   have e1:=(hb.block _ (iA.1 hnd).1).trans hnd;have e2:=(hb.block _ hps).trans h1;refine⟨?_,?_,?_,?_,?_,?_,?_,?_⟩<;>simp[World.cell?,e1,e2,Ew]
  have HUN:acB (∀w',Below w2.heap.size w2 w'→Calls Tryz.prog 152 #[ptr t,.slice a n c] w' (JQ o i j k l w p ((bC M.t ls).1,{M with t:=(bC M.t ls).2}))):=fun w' hb=>by
   have Rv:=hM2.step (I:=fun _=>False) (fun e=>e) (Step.grow hM2 hb);have Pk:=hS2.grow hM2 hb;have hst:Step o (fun m=>m=i∨m=j∨m=k∨m=l) w o w':=(Step.grow HM.o HB2.o).trans (Step.grow hM2 hb);have g1:=(hb.block p hps).trans h1;have g2:=h2.grow hM2 hb;have g4:∀n,n<8→zi o w' (v n) (M.fds n):=fun n hn=>(h4 n hn).grow hb;refine(Pn (h3.grow hb) Rv n2 iM.o a n c ls (K5.o.below (HB2.o.trans (hb.mono HB2.o.size)) acC) hnc lF).mono ?_;rintro e w4 ⟨rfl,o4,hs4,kV⟩;exact⟨rfl,o4,hst.trans (hs4.mono fun m hm=> .inr (.inl hm)),bZ.tree (M:=M) HKK.o g1 g2 g4 Pk.own Pk.low hs4 kV⟩
  have T_:=hw2;clear h1 h2 h3 h4 hnd hS2 hM2 hw2;go_wp2_with fail;rw[←T_];clear T_;refine yG ((fun w'=>w'.cell? ⟨w1.heap.size,0,none⟩=some (.int .i64 xi)∧w'.cell? ⟨w1.heap.size,1,none⟩=some (.int .i64 xk)∧w'.cell? ⟨w1.heap.size,2,none⟩=some (.int .i64 xl)∧w'.cell? ⟨w1.heap.size,3,none⟩=some (.int .i64 xs)∧w'.cell? ⟨w1.heap.size,4,none⟩=some (.int .u64 xu)∧w'.cell? ⟨w1.heap.size,5,none⟩=some (.bool xc)∧w'.cell? ⟨p,2,none⟩=some (.int .u64 M.now)∧w'.cell? ⟨p,0,none⟩=some (ptr t))) ?_ fun hS=> ?_
  ·exact HC.o _ acD.drew
  refine aP 0 hS ?_;refine aP 1 hS ?_;refine aP 2 hS ?_;refine aP 3 hS ?_;refine aP 4 hS ?_;refine qh 5 fun K hK=> ?_;go_simp;refine(JY xi xk xl xs xu xc M.now _).mono ?_;rintro e w3 ⟨rfl,hb3⟩;have HB3:acB (Below w2.heap.size w2 w3):=acA (acD.drew.trans hb3);have Ez:=acA (HC.o _ HB3.o);have q0:=(HC.o _ HB3.o).2.2.2.2.2.2.2;have HU3:=acA (HUN.o _ HB3.o);obtain⟨re,hre⟩:∃re,re=gY xk xl xu xc M.now:=⟨_,rfl⟩;rw[←hre];have sU:=acA hre;clear hre hb3;go_wp2_with fail;refine pW hK (Ez.o) fun hS=> ?_;clear hK K;refine aP 6 hS ?_;refine xW ?_;clear hS;by_cases hy:re=0
  ·have HY:=acA hy;have hy2:(re !=0)=false:=by simpa using hy
   clear hy;go_wp2_with fail;refine HU3.o.mono ?_;rintro e w4 ⟨rfl,ho⟩;have HO:=acA ho;clear ho;go_wp2_with fail;go_ret;have e2:gG M ls=((bC M.t ls).1,{M with t:=(bC M.t ls).2}):=HR.o.trans ((if_neg (fun h=>h HZ.o)).trans (if_neg (fun h=>h (sU.o.symm.trans HY.o))));rw[e2];exact⟨rfl,HO.o⟩
  ·have HY:=acA hy;have hy2:(re !=0)=true:=by simpa using hy
   clear hy;go_wp2_with fail;go_ret;have e2:gG M ls=(re,M):=HR.o.trans ((if_neg (fun h=>h HZ.o)).trans ((if_pos (fun h=>HY.o (sU.o.trans h))).trans (by rw[←sU.o])));rw[e2];have hb:=HB2.o.trans (HB3.o.mono HB2.o.size);exact⟨rfl,o,Step.grow HM.o hb,HS.o.grow HM.o hb⟩
 ·have HZ:=acA hz;have hz2:(xe==0)=false:=by simpa using hz
  have hz3:(xe !=0)=true:=by simpa using hz
  clear hz;go_wp2_with fail;go_ret;have e2:gG M ls=(xe,M):=HR.o.trans (if_pos HZ.o);rw[e2];exact⟨rfl,o,Step.grow HM.o HB2.o,HS.o.grow HM.o HB2.o⟩
end
def kS(M:dS)(ls:List Nm)(aA:Int):Int×dS:=
 if (bU M.t ls).er≠0 then((bU M.t ls).er,M)else
 if nN (bU M.t ls).k (bU M.t ls).u (bU M.t ls).c aA≠0 then(nN (bU M.t ls).k (bU M.t ls).u (bU M.t ls).c aA,M)else
 ((eX M.t (bU M.t ls).i aA).1,{M with t:=(eX M.t (bU M.t ls).i aA).2})
section
variable{W w:World}{o:Mark}{i j k l p:Nat}{M:dS}
theorem PY{S:Nat→Prop}(hS:bZ o i j k w p M)(hM:Marks W o w)(hk:Mk i j k l)(hok:dG M.t)(a:Option Addr)(n c:Nat)(ls:List Nm)(hls:aK S w a n (ls.map strOf))(hnc:n≤c)(lF:n≤1000000)(hid:(Lit.int .i64 (aQ M.t ls).1).wf=true)(aA:Int)(ht:0≤aA∧aA≤18446744073709551615)(hxi:(Lit.int .i64 (bU M.t ls).i).wf=true):
  Calls Tryz.prog 82 #[ptr p,.slice a n c,.int .u64 aA] w (JQ o i j k l w p (kS M ls aA)):=by
 have HN:=acA (FM hS hM hok a n c ls hls hid);rw[Dx]at HN;have HKK:=acA hk;have iM:=acA hok;have HM:=acA hM;have HS:=acA hS;have K5:=acA hls;have hr:kS M ls aA=kS M ls aA:=rfl
 conv at hr=>rhs;unfold kS
 have HR:=acA hr;clear hS hM hk hok hls hid hr;have HXI:=acA hxi;clear hxi;generalize bU M.t ls=X at HN HR HXI;obtain⟨xi,xk,xl,xs,xu,xc,xe⟩:=X;unfold JZ.cells at HN;go_enter Tryz.func82,Tryz.ntmps82;go_wp2_with fail;refine HN.o.mono ?_;rintro e w1 ⟨rfl,hb1⟩;have HB1:=acA hb1;have HB2:acB (Below w.heap.size w (w1.alloc (.cells #[.int .i64 xi,.int .i64 xk,.int .i64 xl,.int .i64 xs,.int .u64 xu,.bool xc] 39))):=acA (hb1.trans ((wall _ _).mono hb1.size));obtain⟨n1,n2,n3,n4,n5,n6,n7,n8,n9,n10⟩:=HKK.o.ne;clear hb1 HN;by_cases hz:xe=0
 ·have HZ:=acA hz;have hz2:(xe==0)=true:=by simpa using hz
  clear hz;obtain⟨w2,hw2⟩:∃w2,w2=w1.alloc (.cells #[.int .i64 xi,.int .i64 xk,.int .i64 xl,.int .i64 xs,.int .u64 xu,.bool xc] 39):=⟨_,rfl⟩;have hnd:w2.heap[w1.heap.size]? =some (.cells #[.int .i64 xi,.int .i64 xk,.int .i64 xl,.int .i64 xs,.int .u64 xu,.bool xc] 39 (0,0)):=by rw[hw2];exact(MapKept.heap_alloc w1 _).1
  rw[←hw2]at HB2;have hS2:=HS.o.grow HM.o HB2.o;have hM2:=HM.o.step (I:=fun _=>False) (fun e=>e) (Step.grow HM.o HB2.o);obtain⟨t,s,v,h1,h2,h3,h4⟩:=hS2.at_;have hps:=hS2.low;have HC:acB (∀w',Below w2.heap.size w2 w'→w'.cell? ⟨w1.heap.size,0,none⟩=some (.int .i64 xi)∧w'.cell? ⟨w1.heap.size,1,none⟩=some (.int .i64 xk)∧w'.cell? ⟨w1.heap.size,2,none⟩=some (.int .i64 xl)∧w'.cell? ⟨w1.heap.size,3,none⟩=some (.int .i64 xs)∧w'.cell? ⟨w1.heap.size,4,none⟩=some (.int .u64 xu)∧w'.cell? ⟨w1.heap.size,5,none⟩=some (.bool xc)∧w'.cell? ⟨p,2,none⟩=some (.int .u64 M.now)∧w'.cell? ⟨p,0,none⟩=some (ptr t)):=fun w' hb=>by
   have e1:=(hb.block _ (iA.1 hnd).1).trans hnd;have e2:=(hb.block _ hps).trans h1;refine⟨?_,?_,?_,?_,?_,?_,?_,?_⟩<;>simp[World.cell?,e1,e2,Ew]
  have HUN:acB (∀w',Below w2.heap.size w2 w'→Calls Tryz.prog 157 #[ptr t,.int .i64 xi,.int .u64 aA] w' fun e w4=>JQ o i j k l w p ((eX M.t xi aA).1,{M with t:=(eX M.t xi aA).2}) e w4∧∀b,b<w'.heap.size→o b≠j→w4.heap[b]? =w'.heap[b]?):=fun w' hb=>by
   have Rv:=hM2.step (I:=fun _=>False) (fun e=>e) (Step.grow hM2 hb);have Pk:=hS2.grow hM2 hb;have hst:Step o (fun m=>m=i∨m=j∨m=k∨m=l) w o w':=(Step.grow HM.o HB2.o).trans (Step.grow hM2 hb);have g1:=(hb.block p hps).trans h1;have g2:=h2.grow hM2 hb;have g4:∀n,n<8→zi o w' (v n) (M.fds n):=fun n hn=>(h4 n hn).grow hb;refine(Xg (h3.grow hb) Rv n2 iM.o xi aA HXI.o ht.1 ht.2).mono ?_;rintro e w4 ⟨rfl,o4,hs4,kV⟩;exact⟨⟨rfl,o4,hst.trans (hs4.mono fun m hm=> .inr (.inl hm)),bZ.tree (M:=M) HKK.o g1 g2 g4 Pk.own Pk.low hs4 kV⟩,fun b hb' hn=>hs4.block hb' hn⟩
  have Ah:=acA (iA.1 hnd).1;have HO0:acB (o w1.heap.size=0):=acA (aaj fun h9=>by have:=(HM.o.new _ h9).2;have:=HB1.o.size;omega);have T_:=hw2;clear h1 h2 h3 h4 hnd hS2 hM2 hw2;go_wp2_with fail;rw[←T_];clear T_;refine(PX xi xk xl xs xu xc aA _).mono ?_;rintro e w3 ⟨rfl,hb3⟩;have HB3:acB (Below w2.heap.size w2 w3):=acA hb3;obtain⟨r0,_,_,_,_,_,_,q0⟩:=HC.o _ hb3;have HU3:=acA (HUN.o _ (HB3.o.trans acD.drew));have HC3:=acA (fun w' hb=>HC.o w' (HB3.o.trans hb));obtain⟨re,hre⟩:∃re,re=nN xk xu xc aA:=⟨_,rfl⟩;rw[←hre];have sU:=acA hre;clear hre hb3;by_cases hy:re=0
  ·have HY:=acA hy;have hy2:(re !=0)=false:=by simpa using hy
   clear hy;go_wp2_with fail;refine yG ((fun w'=>(∃c,w'.cell? ⟨p,0,none⟩=some c)∧w'.cell? ⟨p,0,none⟩=some (ptr t)∧w'.cell? ⟨w1.heap.size,0,none⟩=some (.int .i64 xi))) ?_ fun hS=> ?_
   ·exact⟨⟨_,q0⟩,q0,r0⟩
   refine aP 0 hS ?_;refine aP 1 hS ?_;refine aP 2 hS ?_;refine aP 3 hS ?_;refine aP 4 hS ?_;refine aP 5 hS ?_;refine aP 6 hS ?_;refine qh 7 fun K hK=> ?_;go_simp;refine HU3.o.mono ?_;rintro e w4 ⟨⟨rfl,hex⟩,hbl⟩;have HO:=acA hex;have hp9:=hbl p (Pd hps HB3.o.size) (by rw[HS.o.own];exact fun e=>n8 e.symm);have hw9:=hbl w1.heap.size (Pd Ah.o HB3.o.size) (by rw[HO0.o];exact fun e=>n2 e.symm);have Ez:acB ((∃c,w4.cell? ⟨p,0,none⟩=some c)∧w4.cell? ⟨p,0,none⟩=some (ptr t)∧w4.cell? ⟨w1.heap.size,0,none⟩=some (.int .i64 xi)):=by
    have e1:w4.cell? ⟨p,0,none⟩=some (ptr t):=by
     have:w4.cell? ⟨p,0,none⟩=w3.drew.cell? ⟨p,0,none⟩:=by simp only[World.cell?,hp9]
     rw[this];exact q0
    have e2:w4.cell? ⟨w1.heap.size,0,none⟩=some (.int .i64 xi):=by
     have:w4.cell? ⟨w1.heap.size,0,none⟩=w3.drew.cell? ⟨w1.heap.size,0,none⟩:=by simp only[World.cell?,hw9]
     rw[this];exact r0
    exact acA ⟨⟨_,e1⟩,e1,e2⟩
   clear hex hbl hp9 hw9;go_wp2_with fail;refine pW hK (Ez.o) fun hS=> ?_;clear hK K;refine aP 8 hS ?_;refine xW ?_;go_wp2_with fail;go_ret;have e2:kS M ls aA=((eX M.t xi aA).1,{M with t:=(eX M.t xi aA).2}):=HR.o.trans ((if_neg (fun h=>h HZ.o)).trans (if_neg (fun h=>h (sU.o.symm.trans HY.o))));rw[e2];exact⟨rfl,HO.o⟩
  ·have HY:=acA hy;have hy2:(re !=0)=true:=by simpa using hy
   clear hy;go_wp2_with fail;go_ret;have e2:kS M ls aA=(re,M):=HR.o.trans ((if_neg (fun h=>h HZ.o)).trans ((if_pos (fun h=>HY.o (sU.o.trans h))).trans (by rw[←sU.o])));rw[e2];have hb:=HB2.o.trans (HB3.o.mono HB2.o.size);exact⟨rfl,o,Step.grow HM.o hb,HS.o.grow HM.o hb⟩
 ·have HZ:=acA hz;have hz2:(xe==0)=false:=by simpa using hz
  have hz3:(xe !=0)=true:=by simpa using hz
  clear hz;go_wp2_with fail;go_ret;have e2:kS M ls aA=(xe,M):=HR.o.trans (if_pos HZ.o);rw[e2];exact⟨rfl,o,Step.grow HM.o HB2.o,HS.o.grow HM.o HB2.o⟩
end
theorem FQ{T:aL}:∀(p:List Nm) (id:Int),(aJ T id p).2≠0→(aJ T id p).1=0
 |[],id,h=>absurd rfl h
 |n::r,id,h=>by
  unfold aJ at h⊢;split
  ·rfl
  ·rename_i x hx;rw[hx]at h;dsimp only at h;split
   ·rename_i hk;rw[if_pos hk]at h;split
    ·rfl
    ·rename_i k hk2;rw[hk2]at h;exact FQ r k h
   ·rfl
theorem Dy{T:aL}(hT:dG T)(ls:List Nm):0≤(aQ T ls).1∧(aQ T ls).1≤65535:=by
 unfold aQ;by_cases hf:bg ls≠0
 ·rw[if_pos hf];simp
 ·rw[if_neg hf];by_cases h2:(aJ T 0 ls).2=0
  ·have h3:=qL (T:=T) (p:=ls) (id:=(aJ T 0 ls).1) (aaO rfl h2) hT;cases hx:aj (aJ T 0 ls).1 T with
   |none=>rw[hx]at h3;cases h3
   |some x=>have:=hT.ids _ x hx;omega
  ·rw[FQ ls 0 h2];simp
theorem zo{T:aL}(hT:dG T)(ls:List Nm):(Lit.int .i64 (aQ T ls).1).wf=true:=by
 have:=Dy hT ls;exact jU (by omega) (by omega)
theorem PZ{T:aL}(hT:dG T)(ls:List Nm):(Lit.int .i64 (bU T ls).i).wf=true:=by
 have:=Dy hT ls;unfold bU;split
 ·exact jU (by simp) (by simp)
 ·split
  ·exact jU (by simp;omega) (by simp;omega)
  ·exact jU (by simp) (by simp)
end Go.Proofs.YtjnhnlabpccgjaaGreatDoor
namespace Go.Proofs
open Go.Shelf
def Tryz.Ap:Go.Shelf.Ren:=⟨fun|4=>199|n=>n,fun|22=>107|25=>148|3=>3|4=>4|9=>9|20=>20|0=>0|n=>n,fun|n=>n⟩
theorem Tryz.Zl:Go.Proofs.Lays8.n4 Tryz.prog Tryz.Ap:={
 mixed:=by kernel_rfl
 f4:=⟨Tryz.f199.name,by decide,Tryz.func199.trans (congrArg some (by kernel_rfl))⟩
 t0:=Tryz.underlying0
 a0:=Tryz.isAgg0
 z0:=Tryz.sizeOf0
 v0:=Tryz.zeroValue0
 t3:=Tryz.underlying3
 a3:=Tryz.isAgg3
 z3:=Tryz.sizeOf3
 v3:=Tryz.zeroValue3
 t4:=Tryz.underlying4
 a4:=Tryz.isAgg4
 z4:=Tryz.sizeOf4
 v4:=Tryz.zeroValue4
 t9:=Tryz.underlying9
 a9:=Tryz.isAgg9
 z9:=Tryz.sizeOf9
 v9:=Tryz.zeroValue9
 t20:=Tryz.underlying20
 a20:=Tryz.isAgg20
 z20:=Tryz.sizeOf20
 v20:=Tryz.zeroValue20
 t22:=Tryz.underlying107
 a22:=Tryz.isAgg107
 z22:=Tryz.sizeOf107
 v22:=Tryz.zeroValue107}
end Go.Proofs
namespace Go.Proofs.YtjnhnlabpccgjaaGreatDoor
open Go.ChangeShapes Go.WideShapes Go.ChangeAt Go.RowKit
theorem G6:(Tryz.prog.info? 148).map (fun i=>(i.zero,i.size,i.bytes))=some (some (.agg #[.int .i64 0,.slice none 0 0,.pointer none]),3,40):=by kernel_rfl
theorem P5(n:Nat)(w:World)(hn:n≤1000000):
  Calls Tryz.prog 199 #[.slice none 0 0,.int .i64 n] w fun e w'=>∃v,e= .returned v∧w'.ownsRow w.heap.size 148 3 v 0 []∧Below w.heap.size w w':=by
 obtain⟨i0,hi,hz0,hz1,hz2⟩:=aap G6;by_cases h0:n=0
 ·subst h0;refine(Any8.slices_Grow_room Tryz.Zl none 0 0 0 w (by omega) (by omega) (by omega) (by omega)).mono ?_;rintro e w' ⟨rfl,rfl⟩;exact⟨_,rfl,⟨rfl,.inl ⟨rfl,rfl⟩⟩,Below.refl _ _⟩
 ·refine(Any8.slices_Grow_grow Tryz.Zl i0 (.agg #[.int .i64 0,.slice none 0 0,.pointer none]) hi hz0 (by rw[hz1];omega) none 0 0 n [] w (by omega) (by omega) (by rw[hz2];omega) (by omega) (by simp) (fun _=>rfl) (fun a h=>by cases h)).mono ?_;rintro e w' ⟨rfl,rfl⟩;have h1:=grownCap_ge w (0+n) 0 (Tryz.Ap.t 25);have h2:=grownCap_le_maxLen w (0+n) 0 (Tryz.Ap.t 25) (by unfold maxLen;omega);refine⟨_,rfl,⟨rfl,.inr ⟨w.heap.size,_,_,rfl,Nat.le_refl _,(MapKept.heap_alloc w.drew _).1,Nat.zero_le _,h2,?_,rfl⟩⟩,(acD.drew).alloc acC _⟩;have e1:(Value.cells (.agg #[.int .i64 0,.slice none 0 0,.pointer none])).size=3:=rfl;simp only[Array.size_append,size_zeroCells,List.size_toArray,List.length_nil,e1];omega
theorem Dz(iW:List (List Value))(k:Nat)(bs:List Value)(h:iW[k]? =some bs):(iW.take (k+1)).flatten=(iW.take k).flatten++bs:=by
 obtain⟨hk,e⟩:=aae.1 h;rw[aah hk,acn,e];simp
theorem Ua(iW:List (List Value))(k:Nat):(iW.take k).flatten.length≤iW.flatten.length:=by
 conv=>rhs;rw[←abg k iW,acn]
 simp
def lN(iW:List (List Value))(k:Nat):List Value:=(iW.take k).flatten
def kI(iW:List (List Value))(k:Nat):Nat:=(lN iW k).length/3
theorem Bp(iW:List (List Value)):kI iW 0=0:=by simp[kI,lN]
theorem J3{S:Nat→Prop}(B n N:Nat)(iW:List (List Value))(w:World)(hn:n=iW.length)(hn2:n≤1000)(hB:B<w.heap.size)(hN:iW.flatten.length=N*3)(htot:N≤100000)
  (hc:∀k,k<n→∃a l c bs,w.cell? ⟨B,k,none⟩=some (.slice a l c)∧ah S w a (l*3) bs∧iW[k]? =some bs∧∀u∈bs,u.oneCell'=true):
  Calls Tryz.prog 162 #[.slice (some ⟨B,0,none⟩) n n] w fun e w'=>∃v,e= .returned v∧w'.ownsRow w.heap.size 148 3 v N iW.flatten∧Below w.heap.size w w':=by
 obtain⟨i0,hi,hz0,hz1,hz2⟩:=aap G6;have HN:=acA hn;have HC:=acA hc;have hle:∀k,kI iW k≤N:=fun k=>by have:=Ua iW k;unfold kI lN;omega
 obtain⟨fl,Lh⟩:∃fl,fl=iW.flatten:=⟨_,rfl⟩;have xP:=acA hN;rw[←Lh];have HFF:=acA Lh;clear hN Lh;have EH:=acA hle;have hG:=P5 N w (by omega);have HG:=acA hG;clear hn hc hle hG;go_enter Tryz.func162,Tryz.ntmps162;go_wp2
 go_loop [3,11] (fun s i=>∃k:Nat,k≤n∧i= .int .i64 k∧s= .int .i64 (kI iW k)) (fun _ i=>n-(intOf i).toNat)
 case atStart=>exact⟨0,by omega,rfl,by rw[Bp];rfl⟩
 case round=>
  obtain⟨k,hk,rfl,rfl⟩:=hrel;have hlk:=EH.o k;by_cases hlt:k<n
  ·obtain⟨a,l,c,bs,hcell,hS,hp,h1⟩:=HC.o k hlt;have hll:bs.length=l*3:=hS.length;have uS:acB (kI iW (k+1)=kI iW k+l):=by
    have:kI iW (k+1)=kI iW k+l:=by
     unfold kI lN;rw[Dz iW k bs hp,List.length_append,hll];omega
    exact acA this
   have hlk2:kI iW k+l≤100000:=by have:=uS.o;have:=EH.o (k+1);omega
   clear hp hS h1;go_wp2
   go_round
   case rel=>exact⟨k+1,by omega,by go_num,by rw[uS.o];go_num⟩
   case measure=>simp[intOf];omega
  ·obtain rfl:n=k:=by omega
   have HT:acB (lN iW n=fl∧kI iW n=N):=by
    have:iW.take n=iW:=List.take_of_length_le (by have:=HN.o;omega);unfold kI lN;rw[this];exact⟨HFF.o.symm,by rw[xP.o];omega⟩
   rw[HT.o.2];go_wp2_with fail;refine HG.o.mono ?_;rintro e w1 ⟨v,rfl,hown,hb1⟩;have HB1:=acA hb1;have hown0:w1.ownsRow w.heap.size 148 3 v (kI iW 0) (lN iW 0):=by rw[Bp];exact hown
   have HO:=acA hown0;clear hb1 hown hown0 HG;go_wp2_with fail
   go_loopw [6,27] (fun v i wr=>∃k:Nat,k≤n∧i= .int .i64 k∧wr.ownsRow w.heap.size 148 3 v (kI iW k) (lN iW k)∧Below w.heap.size w wr) (fun _ i _=>n-(intOf i).toNat)
   case atStart=>exact⟨0,by omega,rfl,HO.o,HB1.o⟩
   case round=>
    obtain⟨k,hk,rfl,hown,hb⟩:=hrel;have hbs:=hb.size;by_cases hlt:k<n
    ·obtain⟨a,l,c,bs,hcell0,hS,hp,h1⟩:=HC.o k hlt;have hcell:=(hb.cell (p:=⟨B,k,none⟩) hB).trans hcell0;have hll:bs.length=l*3:=hS.length;have uS:acB (lN iW (k+1)=lN iW k++bs∧kI iW (k+1)=kI iW k+l):=by
      have e1:lN iW (k+1)=lN iW k++bs:=by unfold lN;exact Dz iW k bs hp
      exact acA ⟨e1,by unfold kI;rw[e1,List.length_append,hll];omega⟩
     have hlk2:kI iW k+l≤100000:=by have:=uS.o.2;have:=EH.o (k+1);omega
     have HS:=acA (hS.below hb acC);have HOW:=acA hown;have HB:=acA hb;have H1:=acA h1;clear hp hS hown hb hcell0 hlk hll h1;go_wp2_with (at_builtin;refine dQ (by rfl) _ _ 107 (by rfl) w.heap.size 148 i0 _ 3 40 Tryz.underlying107 hi hz0 hz1 hz2 rfl (by omega) _ _ _ (by rfl) HOW.o a l c bs (by rfl) HS.o H1.o (by unfold maxLen;omega) (by omega) hbs ?_;intro A' c' w2 hown2 hb2);have EI:=acA hown2;have HB2:=acA hb2;clear hown2 hb2;go_roundw
     case rel=>
      refine⟨k+1,by omega,by go_num,?_,HB.o.trans HB2.o⟩;rw[uS.o.1,uS.o.2];exact EI.o
     case measure=>simp[intOf];omega
    ·obtain rfl:n=k:=by omega
     rw[HT.o.1,HT.o.2]at hown;obtain⟨a,c,rfl,hac⟩:=Ab hown;have HOW:=acA hown;have HB:=acA hb;clear hown hb;go_wp2;go_ret;exact⟨_,rfl,HOW.o,HB.o⟩
end Go.Proofs.YtjnhnlabpccgjaaGreatDoor
