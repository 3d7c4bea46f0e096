/- package state: create. package state: at, node. package state: node. package state: look. -/
import Derived.Test.YtmabllemjkcobaaGreatDoorM29
import Derived.Test.YtmabllemjkcobaaGreatDoorM16
import Derived.Test.YtmabllemjkcobaaGreatDoorM19
namespace Go.Proofs.YtmabllemjkcobaaGreatDoor
open Go.ChangeShapes Go.WideShapes Go.ChangeAt Go.RowKit
set_option linter.unusedVariables false
set_option linter.unusedSimpArgs false
def kS (M:eF):Int:=match (List.range 8).find? (fun n=>(M.fds n).isNone)with|some n=>n|none=> -1
theorem Hu.eq {M:eF} {v:Int} (h:Hu M v):v=kS M:=by
 unfold kS
 rcases h with⟨rfl,h⟩|⟨n,hn,rfl,h1,h2⟩
 ·have:(List.range 8).find? (fun n=>(M.fds n).isNone)=none:=by
   rw[List.find?_eq_none]
   intro n hn
   rw[List.mem_range]at hn
   have:=h n hn
   cases hf:M.fds n with
   |none=>exact absurd hf this
   |some f=>simp
  rw[this]
 ·have:(List.range 8).find? (fun n=>(M.fds n).isNone)=some n:=by
   have e:List.range 8=List.range n++n::(List.range (8-(n+1))).map (· +(n+1)):=by
    rcases (show n=0∨n=1∨n=2∨n=3∨n=4∨n=5∨n=6∨n=7 by omega)with rfl|rfl|rfl|rfl|rfl|rfl|rfl|rfl<;>rfl
   rw[e,List.find?_append]
   have e1:(List.range n).find? (fun n=>(M.fds n).isNone)=none:=by
    rw[List.find?_eq_none]
    intro m hm
    rw[List.mem_range]at hm
    have:=h2 m hm
    cases hf:M.fds m with
    |none=>exact absurd hf this
    |some f=>simp
   rw[e1,List.find?_cons_of_pos (by rw[h1];rfl)]
   rfl
  rw[this]
def iM (M:eF) (ls:List Nm):rO×eF:=
 if kS M<0 then(bW 25,M)else
 if (cZ M.t ls 1).1.2≠0 then(bW (cZ M.t ls 1).1.2,{M with t:=(cZ M.t ls 1).2})else
 (⟨0,kS M,[],[],none⟩,eF.put {M with t:=(cZ M.t ls 1).2} (kS M).toNat (some ⟨true,(cZ M.t ls 1).1.1,[]⟩))
section
variable {W w:World} {o:Mark} {i j k l p:Nat} {M:eF}
set_option maxRecDepth 100000 in
set_option maxHeartbeats 8000000 in
theorem DK {S:Nat→Prop} (hS:aU o i j k w p M) (hM:Marks W o w) (hk:Mk i j k l) (hok:dI M.t) (a:Option Addr) (n c:Nat) (ls:List Nm) (hls:aO S w a n (ls.map strOf)) (hnc:n≤c) (nD:n≤1000000):
  Calls Tryz.prog 38 #[ptr p, .slice a n c] w (Ak o i j k l w p (iM M ls)):=by
 have HKK:=Lib.hid hk
 have fu:=Lib.hid hok
 have HM:=Lib.hid hM
 have HS:=Lib.hid hS
 have Sj:=Lib.hid hls
 obtain⟨w2,hw2⟩:∃w2,w2=w.alloc (.cells (b_ (bW 0) none none 0 0) 36):=⟨_,rfl⟩
 have hb2:Below w.heap.size w w2:=by rw[hw2];exact wall w _
 have hre:w2.heap[w.heap.size]? =some (.cells (b_ (bW 0) none none 0 0) 36 (0,0)):=by rw[hw2];exact(MapKept.heap_alloc w _).1
 obtain⟨n1,n2,n3,n4,n5,n6,n7,n8,n9,n10⟩:=hk.ne
 obtain⟨o1,hs1,hl1,hl2⟩:=fZ HM.out l (fun b=>b=w.heap.size) (w':=w2) (fun b hb=>by subst hb;exact⟨Nat.le_refl _,(Array.getElem?_eq_some_iff.1 hre).1⟩) hb2
 have hS1:aU o1 i j k w2 p M:=HS.out.step (fun e=>n4 e.symm) n7 n9 n10 hs1
 have hM1:Marks W o1 w2:=HM.out.step (fun e=>n4 e.symm) hs1
 have qA:Hid (Calls Tryz.prog 95 #[ptr p] (w.alloc (.cells (b_ (bW 0) none none 0 0) 36)) fun e w''=>∃v,e= .returned (.int .i64 v)∧Hu M v∧w''=w2):=by rw[←hw2];exact Lib.hid (DI hS1)
 unfold b_ bW at qA
 dsimp only[List.length_nil]at qA
 have mg:=Lib.hid hre
 have HB2:=Lib.hid hb2
 have mU:=Lib.hid hS1
 have jB:=Lib.hid hM1
 have ED:=Lib.hid (hl1 _ rfl)
 have l8:=Lib.hid hs1
 clear hS hM hk hok hls hre hb2 hw2 hS1 hM1 hl1 hl2 hs1
 go_enter Tryz.func38,Tryz.ntmps38
 go_wp2_with fail
 (with_reducible refine qA.out.mono ?_)
 rintro e w3 ⟨v,rfl,hfr,rfl⟩
 have hv:=hfr.eq
 clear qA
 rcases hfr with⟨rfl,hfull⟩|⟨m,C_,rfl,hfm,hfl⟩
 ·have hr:iM M ls=(bW 25,M):=by unfold iM;rw[←hv,if_pos (by omega)]
  have HRR:=Lib.hid hr
  clear hr hv hfull
  go_wp2_with fail
  (with_reducible refine(gu _ _).mono ?_)
  rintro e w4 ⟨rfl,hb4⟩
  unfold uV
  have iq:=Lib.hid hb4
  have HR4:=Lib.hid ((hb4.block _ (Array.getElem?_eq_some_iff.1 mg.out).1).trans mg.out)
  clear hb4
  go_wp2_with (refine ak (by rfl) 36 _ _ (by rfl) w.heap.size (b_ (bW 25) none none 0 0) (by rfl) (by rfl) _ HR4.out bA rfl (bD _ _ _ _ _) ?_;intro w5 hs5;have fQ:=Lib.hid hs5;clear hs5)
  refine bJ rfl rfl rfl fQ.out.1 ?_
  rw[HRR.out]
  have oG:=jB.out.step (I:=fun _=>False) (fun e=>e) (Step.grow jB.out iq.out)
  have hst:=fQ.out.step oG ED.out
  exact⟨o1,⟨_,rfl,nR.WG _ _ _⟩,((l8.out.trans (Step.grow jB.out iq.out)).trans hst).mono fun m hm=> .inr (.inr (.inr hm)),(mU.out.grow jB.out iq.out).step (fun e=>n4 e.symm) n7 n9 n10 hst⟩
 ·have hneg:¬((m:Int)<0):=by omega
  have hdn:decide ((m:Int)<0)=false:=by simp
  obtain⟨t,s,vv,h1,h2,h3,h4⟩:=mU.out.at_
  obtain⟨z0,z1,z2,z3,z4⟩:=fH h1
  have HMK:=Lib.hid (G6 h3 jB.out n2 fu.out a n c ls 1 (Sj.out.below HB2.out (Nat.le_refl _)) hnc nD)
  have hr:iM M ls=if (cZ M.t ls 1).1.2≠0 then(bW (cZ M.t ls 1).1.2,{M with t:=(cZ M.t ls 1).2})else(⟨0,m,[],[],none⟩,eF.put {M with t:=(cZ M.t ls 1).2} m (some ⟨true,(cZ M.t ls 1).1.1,[]⟩)):=by
   unfold iM
   rw[←hv,if_neg hneg]
   rfl
  have HRR:=Lib.hid hr
  obtain⟨T2,LC⟩:∃T2,T2=(cZ M.t ls 1).2:=⟨_,rfl⟩
  obtain⟨ae,hae⟩:∃ae,ae=(cZ M.t ls 1).1.2:=⟨_,rfl⟩
  obtain⟨ai,hai⟩:∃ai,ai=(cZ M.t ls 1).1.1:=⟨_,rfl⟩
  rw[←hae,←LC,←hai]at HMK HRR
  have Nf:=Lib.hid h1
  have WI:=Lib.hid h2
  have WJ:=Lib.hid h4
  have hps:=mU.out.low
  have hgs:=(Array.getElem?_eq_some_iff.1 mg.out).1
  have Vq:=Lib.hid hgs
  clear hr hv hfm hfl LC hae hai h1 h2 h3 h4 z1 z2 z3 z4
  go_wp2_with fail
  (with_reducible refine HMK.out.mono ?_)
  rintro e w4 ⟨rfl,o4,hs4,kN⟩
  have QF:¬(fun m=>m=j) 0:=fun e=>n2 e.symm
  have hr4:=(hs4.block (b:=w.heap.size) Vq.out (by rw[ED.out];exact fun e=>n9 e.symm)).trans mg.out
  have nS:=aU.tree (M:=M) HKK.out Nf.out WI.out WJ.out mU.out.own hps hs4 kN
  have oG:=jB.out.step QF hs4
  have iH:=Lib.hid nS
  have lT:=Lib.hid oG
  have WL:=Lib.hid ((hs4.old _ Vq.out).trans ED.out)
  have HR4:=Lib.hid hr4
  have tX:=Lib.hid ((l8.out.mono (J:=fun m=>m=i∨m=j∨m=k∨m=l) fun m hm=> .inr (.inr (.inr hm))).trans (hs4.mono fun m hm=> .inr (.inl hm)))
  by_cases hz:ae=0
  ·have HZ:=Lib.hid hz
   have hz2:(ae !=0)=false:=by simpa using hz
   clear hz hr4 oG hs4 kN z0 hneg hdn
   obtain⟨t',s',v',k1,k2,k3,k4⟩:=nS.at_
   have Cg:Below w4.heap.size w4 (w4.alloc (.cells #[.bool true, .int .i64 ai, .slice none 0 0] 141)):=wall w4 _
   have wT:=Lib.hid (lT.out.step (I:=fun _=>False) (fun e=>e) (Step.grow lT.out Cg))
   have hS5:=iH.out.grow lT.out Cg
   have hfree:o4 w4.heap.size=0:=Decidable.byContradiction fun h9=>by have:=(lT.out.new _ h9).2;omega
   have nE:=Lib.hid (hS5.put wT.out HKK.out m C_ (ptr w4.heap.size) (some ⟨true,ai,[]⟩) ⟨w4.heap.size,none,0,rfl,hfree,by simp,(MapKept.heap_alloc w4 _).1,Nat.le_refl _,aj.nil _ _ _⟩)
   have k1':=(Cg.block p iH.out.low).trans k1
   obtain⟨y0,y1,y2,y3,y4⟩:=fH k1'
   have WM:=y3 m C_
   have WO:=y4 (3+m)
   have oO:Hid (((w4.alloc (.cells #[.bool true, .int .i64 ai, .slice none 0 0] 141)).setCell ⟨p,3+m,none⟩ (ptr w4.heap.size)).heap[w.heap.size]? =some (.cells (b_ (bW 0) none none 0 0) 36 (0,0))):=Lib.hid ((nE.out.1.block (b:=w.heap.size) (Nat.lt_of_lt_of_le (Array.getElem?_eq_some_iff.1 HR4.out).1 Cg.size) (by rw[WL.out];exact fun e=>n10 e.symm)).trans ((Cg.block _ (Array.getElem?_eq_some_iff.1 HR4.out).1).trans HR4.out))
   have i0:(0:Int)≤m:=by omega
   have i1:(m:Int)<8:=by omega
   have HBO:=Lib.hid Cg
   clear k1 k2 k3 k4 hS5 hfree k1' y0 y1 y2 y3 y4 nS Cg
   go_wp2_with (refine ak (by rfl) 36 _ _ (by rfl) w.heap.size (b_ ⟨0,m,[],[],none⟩ none none 0 0) (by rfl) (by rfl) _ oO.out bA rfl (bD _ _ _ _ _) ?_;intro w6 hs6;have lg:=Lib.hid hs6;clear hs6)
   refine bJ rfl rfl rfl lg.out.1 ?_
   rw[HRR.out,if_neg (fun h=>h HZ.out)]
   have Js:=wT.out.step (I:=fun m=>m=k) (fun e=>n3 e.symm) nE.out.1
   have hst:=lg.out.step Js WL.out
   refine⟨o4,⟨_,rfl,none,none,0,0,rfl,Nat.le_refl _,Nat.le_refl _,aj.nil _ _ _,jM _ _⟩,((tX.out.trans (Step.grow lT.out HBO.out)).trans (nE.out.1.mono fun m hm=> .inr (.inr (.inl hm)))).trans (hst.mono fun m hm=> .inr (.inr (.inr hm))),nE.out.2.step (fun e=>n4 e.symm) n7 n9 n10 hst⟩
  ·have HZ:=Lib.hid hz
   have hz2:(ae !=0)=true:=by simpa using hz
   clear hz hr4 oG hs4 kN z0 nS
   go_wp2_with fail
   (with_reducible refine(gu _ _).mono ?_)
   rintro e w5 ⟨rfl,hb5⟩
   unfold uV
   have jI:=Lib.hid hb5
   have oO:=Lib.hid ((hb5.block _ (Array.getElem?_eq_some_iff.1 HR4.out).1).trans HR4.out)
   clear hb5
   go_wp2_with (refine ak (by rfl) 36 _ _ (by rfl) w.heap.size (b_ (bW ae) none none 0 0) (by rfl) (by rfl) _ oO.out bA rfl (bD _ _ _ _ _) ?_;intro w6 hs6;have lg:=Lib.hid hs6;clear hs6)
   refine bJ rfl rfl rfl lg.out.1 ?_
   rw[HRR.out,if_pos HZ.out]
   have Lu:=lT.out.step (I:=fun _=>False) (fun e=>e) (Step.grow lT.out jI.out)
   have hst:=lg.out.step Lu WL.out
   exact⟨o4,⟨_,rfl,nR.WG _ _ _⟩,(tX.out.trans (Step.grow lT.out jI.out)).trans (hst.mono fun m hm=> .inr (.inr (.inr hm))),(iH.out.grow lT.out jI.out).step (fun e=>n4 e.symm) n7 n9 n10 hst⟩
end
def jq (M:eF) (id:Int):Option aK:=if id=0 then some M.t else(Aj M.s id).map (·.t)
def AtRet (o:Mark) (j:Nat) (w:World) (M:eF) (id:Int) (e:Ending) (w':World):Prop:=
 Below w.heap.size w w'∧((jq M id=none∧e= .returned (.tuple #[.pointer none, .int .i64 29]))∨∃T q,jq M id=some T∧e= .returned (.tuple #[ptr q, .int .i64 0])∧(∃m,dN o m w' q T)∧dI T)
section
variable {W w:World} {o:Mark} {i j k l p:Nat} {M:eF}
set_option maxRecDepth 100000 in
set_option maxHeartbeats 4000000 in
theorem Nh (hS:aU o i j k w p M) (hM:Marks W o w) (hok:dI M.t) (wJ:M.s.l.length≤1000) (id:Int):Calls Tryz.prog 96 #[ptr p, .int .i64 id] w (AtRet o j w M id):=by
 obtain⟨t,s,v,h1,h2,h3,h4⟩:=hS.at_
 obtain⟨z0,z1,z2,z3,z4⟩:=fH h1
 by_cases h0:id=0
 ·subst h0
  have HT:=Lib.hid h3
  have fu:=Lib.hid hok
  clear hS hM hok wJ h1 h2 h3 h4 z1 z2 z3 z4
  go_enter Tryz.func96,Tryz.ntmps96
  go_wp2_with fail
  go_ret2
  exact⟨Below.refl _ _, .inr ⟨M.t,t,if_pos rfl,rfl,⟨j,HT.out⟩,fu.out⟩⟩
 ·have hd:(id==0)=false:=by simpa using h0
  have HG:=Lib.hid (QC h2 hM wJ id)
  have H0:=Lib.hid h0
  clear hS hM hok wJ h1 h2 h3 h4 z0 z2 z3 z4 h0
  go_enter Tryz.func96,Tryz.ntmps96
  go_wp2_with fail
  (with_reducible refine HG.out.mono ?_)
  rintro e w1 ⟨hb1,hg⟩
  have HB1:=Lib.hid hb1
  clear hb1
  rcases hg with⟨hf,rfl⟩|⟨x,q,hf,rfl,hT,H8⟩
  ·have hr:jq M id=none:=by unfold jq;rw[if_neg H0.out,hf];rfl
   have HRR:=Lib.hid hr
   clear hf hr
   go_wp2_with fail
   go_ret2
   exact⟨HB1.out, .inl ⟨HRR.out,rfl⟩⟩
  ·have hr:jq M id=some x.t:=by unfold jq;rw[if_neg H0.out,hf];rfl
   have HRR:=Lib.hid hr
   have HT:=Lib.hid hT
   have fu:=Lib.hid H8
   clear hf hr hT H8
   go_wp2_with fail
   go_ret2
   exact⟨HB1.out, .inr ⟨x.t,q,HRR.out,rfl,⟨0,HT.out⟩,fu.out⟩⟩
end
def su (k:Int) (x:eB):Array Value:= #[.int .i64 k, .int .i64 x.kind, .int .i64 x.links, .int .i64 x.b.length, .int .u64 x.au, .bool x.closed]
def rG (T:aK) (ls:List Nm):Array Value×Int:=if (bq T ls).2≠0 then(jc,(bq T ls).2)else match ah (bq T ls).1 T with|some x=>(su (bq T ls).1 x,0)|none=>(jc,0)
section
variable {W w:World} {o:Mark} {i j k l p:Nat} {M:eF}
set_option maxRecDepth 100000 in
set_option maxHeartbeats 4000000 in
theorem Al {S:Nat→Prop} (hS:aU o i j k w p M) (hM:Marks W o w) (hok:dI M.t) (a:Option Addr) (n c:Nat) (ls:List Nm) (hls:aO S w a n (ls.map strOf)) (hid:(Lit.int .i64 (bq M.t ls).1).wf=true):
  Calls Tryz.prog 105 #[ptr p, .slice a n c] w fun e w'=>e= .returned (.tuple #[.agg (rG M.t ls).1, .int .i64 (rG M.t ls).2])∧Below w.heap.size w w':=by
 obtain⟨t,s,v,h1,h2,h3,h4⟩:=hS.at_
 obtain⟨z0,z1,z2,z3,z4⟩:=fH h1
 have hlow:=hS.low
 obtain⟨w2,hw2⟩:∃w2,w2=w.alloc (.cells jc 34):=⟨_,rfl⟩
 have hb2:Below w.heap.size w w2:=by rw[hw2];exact wall w _
 have hre:w2.heap[w.heap.size]? =some (.cells jc 34 (0,0)):=by rw[hw2];exact(MapKept.heap_alloc w _).1
 obtain⟨g,D,mb,ib,nb,hA,hg,hD⟩:=h3.grow hb2
 have mO:Hid (Calls Tryz.prog 97 #[ptr t, .slice a n c] (w.alloc (.cells jc 34)) fun e w'=>e= .returned (.tuple #[.int .i64 (bq M.t ls).1, .int .i64 (bq M.t ls).2])∧Below w2.heap.size w2 w'):=by
  rw[←hw2];exact Lib.hid (Bc a n c ls w2 hA hok (hls.below hb2 (Nat.le_refl _)))
 unfold jc at mO
 have I9:Hid (∀w',Below w2.heap.size w2 w'→Calls Tryz.prog 98 #[ptr t, .int .i64 (bq M.t ls).1] w' fun e w''=>e= .returned (.tuple #[jH M.t (bq M.t ls).1, .bool (ah (bq M.t ls).1 M.t).isSome])∧Below w'.heap.size w' w''):=fun w' hb=>sV _ w' (hA.below hb (Nat.le_refl _)) hid
 have HP:Hid (∀w',Below w2.heap.size w2 w'→w'.cell? ⟨p,0,none⟩=some (ptr t)):=fun w' hb=>((hb2.trans (hb.mono hb2.size)).cell (p:=⟨p,0,none⟩) hlow).trans z0
 have mg:=Lib.hid hre
 have HB2:=Lib.hid hb2
 have hgs:=(Array.getElem?_eq_some_iff.1 hre).1
 clear hS hM hok hls hid h1 h2 h3 h4 z1 z2 z3 z4 hw2 hb2 hre hA hg hD
 obtain⟨ki,hki⟩:∃ki,ki=(bq M.t ls).1:=⟨_,rfl⟩
 obtain⟨ke,hke⟩:∃ke,ke=(bq M.t ls).2:=⟨_,rfl⟩
 rw[←hki,←hke]at mO
 rw[←hki]at I9
 have HR:Hid (rG M.t ls=if ke≠0 then(jc,ke)else match ah ki M.t with|some x=>(su ki x,0)|none=>(jc,0)):=by
  unfold rG;rw[←hki,←hke];exact Lib.hid rfl
 clear hki hke
 go_enter Tryz.func105,Tryz.ntmps105
 go_wp2_with fail
 (with_reducible refine mO.out.mono ?_)
 rintro e w3 ⟨rfl,hb3⟩
 have HB3:=Lib.hid hb3
 have HR3:=Lib.hid ((hb3.block _ hgs).trans mg.out)
 have q0:=HP.out _ hb3
 by_cases hz:ke=0
 ·have HZ:=Lib.hid hz
  have hz2:(ke !=0)=false:=by simpa using hz
  have HN:=Lib.hid (I9.out _ hb3)
  clear hz hb3
  cases ha:ah ki M.t with
  |none=>
   have hnm:jH M.t ki= .agg #[.int .i64 0, .int .i64 0, .int .i64 0, .int .i64 0, .int .u64 0, .bool false]:=by unfold jH;rw[ha]
   rw[hnm]at HN
   have HA:=Lib.hid ha
   clear ha hnm
   go_wp2_with fail
   (with_reducible refine HN.out.mono ?_)
   rintro e w4 ⟨rfl,hb4⟩
   have iq:=Lib.hid hb4
   have jI:Hid (Below w3.heap.size w3 (w4.alloc (.cells (jc) 34))):=Lib.hid (hb4.trans ((wall _ _).mono hb4.size))
   have oO:Hid ((w4.alloc (.cells (jc) 34)).heap[w.heap.size]? =some (.cells jc 34 (0,0))):=Lib.hid ((jI.out.block _ (Array.getElem?_eq_some_iff.1 HR3.out).1).trans HR3.out)
   clear hb4
   go_wp2_with (refine ak (by rfl) 34 _ _ (by rfl) w.heap.size (jc) (by rfl) (by rfl) _ oO.out mY rfl (by simp[jc,su,Value.oneCell']) ?_;intro w6 hs6;have lg:=Lib.hid hs6;clear hs6)
   refine oP rfl rfl rfl rfl lg.out.1 rfl ?_
   rw[HR.out,if_neg (fun h=>h HZ.out),HA.out]
   exact⟨rfl,lg.out.below (HB2.out.trans ((HB3.out.trans (jI.out.mono HB3.out.size)).mono HB2.out.size)) (Nat.le_refl _)⟩
  |some x=>
   have hnm:jH M.t ki= .agg #[.int .i64 ki, .int .i64 x.kind, .int .i64 x.links, .int .i64 x.b.length, .int .u64 x.au, .bool x.closed]:=by unfold jH;rw[ha];rfl
   rw[hnm]at HN
   have HA:=Lib.hid ha
   clear ha hnm
   go_wp2_with fail
   (with_reducible refine HN.out.mono ?_)
   rintro e w4 ⟨rfl,hb4⟩
   have iq:=Lib.hid hb4
   have jI:Hid (Below w3.heap.size w3 (w4.alloc (.cells (su ki x) 34))):=Lib.hid (hb4.trans ((wall _ _).mono hb4.size))
   have oO:Hid ((w4.alloc (.cells (su ki x) 34)).heap[w.heap.size]? =some (.cells jc 34 (0,0))):=Lib.hid ((jI.out.block _ (Array.getElem?_eq_some_iff.1 HR3.out).1).trans HR3.out)
   clear hb4
   go_wp2_with (refine ak (by rfl) 34 _ _ (by rfl) w.heap.size (su ki x) (by rfl) (by rfl) _ oO.out mY rfl (by simp[jc,su,Value.oneCell']) ?_;intro w6 hs6;have lg:=Lib.hid hs6;clear hs6)
   refine oP rfl rfl rfl rfl lg.out.1 rfl ?_
   rw[HR.out,if_neg (fun h=>h HZ.out),HA.out]
   exact⟨rfl,lg.out.below (HB2.out.trans ((HB3.out.trans (jI.out.mono HB3.out.size)).mono HB2.out.size)) (Nat.le_refl _)⟩
 ·have HZ:=Lib.hid hz
  have hz2:(ke !=0)=true:=by simpa using hz
  clear hz hb3
  go_wp2_with (refine ak (by rfl) 34 _ _ (by rfl) w.heap.size jc (by rfl) (by rfl) _ HR3.out mY rfl (by simp[jc,Value.oneCell']) ?_;intro w5 hs5;have fQ:=Lib.hid hs5;clear hs5)
  refine oP rfl rfl rfl rfl fQ.out.1 rfl ?_
  rw[HR.out,if_pos HZ.out]
  exact⟨rfl,fQ.out.below (HB2.out.trans (HB3.out.mono HB2.out.size)) (Nat.le_refl _)⟩
end
def Ni (T:aK) (kind:Int) (ls:List Nm):rO:=
 if (bq T ls).2≠0 then bW (bq T ls).2 else
 if kind=12 then⟨0,0,[],[],(ah (bq T ls).1 T).map fun x=>((bq T ls).1,x)⟩else⟨(ql T (bq T ls).1).2,(ql T (bq T ls).1).1.length,[],(ql T (bq T ls).1).1,none⟩
def og (M:eF) (x:kQ) (ls:List Nm):rO:=match jq M x.snap with
 |none=>bW 29
 |some T=>Ni T x.kind ls
section
variable {W w:World} {o:Mark} {i j k l p:Nat} {M:eF}
set_option maxRecDepth 100000 in
set_option maxHeartbeats 8000000 in
theorem Am {S:Nat→Prop} (hS:aU o i j k w p M) (hM:Marks W o w) (hok:dI M.t) (wJ:M.s.l.length≤1000) (x:kQ) (da:Option Addr) (dc:Nat) (a:Option Addr) (n c:Nat) (ls:List Nm) (hls:aO S w a n (ls.map strOf)) (hid:∀T,jq M x.snap=some T→(Lit.int .i64 (bq T ls).1).wf=true):
  Calls Tryz.prog 47 #[ptr p, .agg (opC x da dc), .slice a n c] w fun e w'=>vk o (og M x ls) e w'∧Below w.heap.size w w':=by
 obtain⟨w2,hw2⟩:∃w2,w2=(w.alloc (.cells (opC x da dc) 28)).alloc (.cells (b_ (bW 0) none none 0 0) 36):=⟨_,rfl⟩
 have hb2:Below w.heap.size w w2:=by rw[hw2];exact(wall w _).trans ((wall _ _).mono (by simp))
 have hop:w2.heap[w.heap.size]? =some (.cells (opC x da dc) 28 (0,0)):=by
  rw[hw2]
  exact((wall _ _).block _ (by simp)).trans (MapKept.heap_alloc w _).1
 have hre:w2.heap[w.heap.size+1]? =some (.cells (b_ (bW 0) none none 0 0) 36 (0,0)):=by
  rw[hw2]
  have:=(MapKept.heap_alloc (w.alloc (.cells (opC x da dc) 28)) (.cells (b_ (bW 0) none none 0 0) 36)).1
  rw[World.size_alloc]at this
  exact this
 have hM2:=hM.step (I:=fun _=>False) (fun e=>e) (Step.grow hM hb2)
 have HAT:Hid (Calls Tryz.prog 96 #[ptr p, .int .i64 x.snap] ((w.alloc (.cells (opC x da dc) 28)).alloc (.cells (b_ (bW 0) none none 0 0) 36)) (AtRet o j w2 M x.snap)):=by
  rw[←hw2];exact Lib.hid (Nh (hS.grow hM hb2) hM2 hok wJ x.snap)
 unfold opC b_ bW at HAT
 dsimp only[List.length_nil]at HAT
 have Sj:=Lib.hid (hls.below hb2 (Nat.le_refl _))
 have wV:=Lib.hid hop
 have mg:=Lib.hid hre
 have HB2:=Lib.hid hb2
 have Af:=Lib.hid hid
 have vO:=Lib.hid hM2
 have hop0:Hid (∀w',Below w2.heap.size w2 w'→w'.cell? ⟨w.heap.size,0,none⟩=some (.int .i64 x.kind)):=fun w' hb=>by
  have:=(hb.block _ (Array.getElem?_eq_some_iff.1 hop).1).trans hop
  simp[World.cell?,this,opC]
 clear hS hM hok wJ hls hid hw2 hb2 hop hre hM2
 unfold opC
 go_enter Tryz.func47,Tryz.ntmps47
 go_wp2_with fail
 (with_reducible refine HAT.out.mono ?_)
 rintro e w3 ⟨hb3,hat⟩
 have HB3:=Lib.hid hb3
 have HR3:=Lib.hid ((hb3.block _ (Array.getElem?_eq_some_iff.1 mg.out).1).trans mg.out)
 rcases hat with⟨hT,rfl⟩|⟨T,q,hT,rfl,⟨m,hTr⟩,H8⟩
 ·have hr:og M x ls=bW 29:=by unfold og;rw[hT]
  have HRR:=Lib.hid hr
  clear hr hT hb3
  go_wp2_with fail
  (with_reducible refine(gu _ _).mono ?_)
  rintro e w4 ⟨rfl,hb4⟩
  unfold uV
  have iq:=Lib.hid (HB2.out.trans ((HB3.out.trans (hb4.mono HB3.out.size)).mono HB2.out.size))
  have HR4:=Lib.hid ((hb4.block _ (Array.getElem?_eq_some_iff.1 HR3.out).1).trans HR3.out)
  clear hb4
  go_wp2_with (refine ak (by rfl) 36 _ _ (by rfl) (w.heap.size+1) (b_ (bW 29) none none 0 0) (by rfl) (by rfl) _ HR4.out bA rfl (bD _ _ _ _ _) ?_;intro w5 hs5;have fQ:=Lib.hid hs5;clear hs5)
  refine bJ rfl rfl rfl fQ.out.1 ⟨⟨_,rfl,?_⟩,fQ.out.below iq.out (by omega)⟩
  rw[HRR.out]
  exact nR.WG _ _ _
 ·obtain⟨g,D,mb,ib,nb,hA,-,-⟩:=hTr
  have hid:=Af.out T hT
  have mO:=Lib.hid (Bc a n c ls w3 hA H8 (Sj.out.below hb3 (Nat.le_refl _)))
  have I9:Hid (∀w',Below w3.heap.size w3 w'→Calls Tryz.prog 98 #[ptr q, .int .i64 (bq T ls).1] w' fun e w''=>e= .returned (.tuple #[jH T (bq T ls).1, .bool (ah (bq T ls).1 T).isSome])∧Below w'.heap.size w' w''):=fun w' hb=>sV _ w' (hA.below hb (Nat.le_refl _)) hid
  have HLI:Hid (∀w',Below w3.heap.size w3 w'→Calls Tryz.prog 110 #[ptr q, .int .i64 (bq T ls).1] w' (Hf w' (ql T (bq T ls).1))):=fun w' hb=>P_ _ w' (hA.below hb (Nat.le_refl _)) H8 hid
  have hr:og M x ls=Ni T x.kind ls:=by unfold og;rw[hT]
  unfold Ni at hr
  have HRR:=Lib.hid hr
  have QG:=Lib.hid hb3
  clear hr hT hA H8 hid hb3
  obtain⟨ki,hki⟩:∃ki,ki=(bq T ls).1:=⟨_,rfl⟩
  obtain⟨ke,hke⟩:∃ke,ke=(bq T ls).2:=⟨_,rfl⟩
  rw[←hki,←hke]at mO HRR
  rw[←hki]at I9 HLI
  clear hki hke
  go_wp2_with fail
  (with_reducible refine mO.out.mono ?_)
  rintro e w4 ⟨rfl,hb4⟩
  have Ue:=Lib.hid hb4
  have iq:=Lib.hid (HB2.out.trans ((HB3.out.trans (hb4.mono HB3.out.size)).mono HB2.out.size))
  have HR4:=Lib.hid ((hb4.block _ (Array.getElem?_eq_some_iff.1 HR3.out).1).trans HR3.out)
  have c0:=hop0.out _ (QG.out.trans (hb4.mono QG.out.size))
  clear hb4
  by_cases hz:ke=0
  ·have HZ:=Lib.hid hz
   have hz2:(ke !=0)=false:=by simpa using hz
   clear hz
   by_cases hk:x.kind=12
   ·have HK:=Lib.hid hk
    have hk2:(x.kind==12)=true:=by simpa using hk
    clear hk
    have HN:=Lib.hid (I9.out _ Ue.out)
    cases ha:ah ki T with
    |none=>
     have hnm:jH T ki= .agg #[.int .i64 0, .int .i64 0, .int .i64 0, .int .i64 0, .int .u64 0, .bool false]:=by unfold jH;rw[ha]
     rw[hnm]at HN
     have HA:=Lib.hid ha
     clear ha hnm
     go_wp2_with fail
     (with_reducible refine HN.out.mono ?_)
     rintro e w5 ⟨rfl,hb5⟩
     have jI:Hid (Below w.heap.size w (w5.alloc (.cells #[.int .i64 0, .int .i64 0, .int .i64 0, .int .i64 0, .int .u64 0, .bool false] 34))):=Lib.hid (iq.out.trans ((hb5.trans ((wall w5 (.cells #[.int .i64 0, .int .i64 0, .int .i64 0, .int .i64 0, .int .u64 0, .bool false] 34)).mono hb5.size)).mono iq.out.size))
     have oO:Hid ((w5.alloc (.cells #[.int .i64 0, .int .i64 0, .int .i64 0, .int .i64 0, .int .u64 0, .bool false] 34)).heap[w.heap.size+1]? =some (.cells (b_ (bW 0) none none 0 0) 36 (0,0))):=Lib.hid (((hb5.trans ((wall w5 (.cells #[.int .i64 0, .int .i64 0, .int .i64 0, .int .i64 0, .int .u64 0, .bool false] 34)).mono hb5.size)).block _ (Array.getElem?_eq_some_iff.1 HR4.out).1).trans HR4.out)
     clear hb5
     go_wp2_with (refine ak (by rfl) 36 _ _ (by rfl) (w.heap.size+1) (b_ ⟨0,0,[],[],none⟩ none none 0 0) (by rfl) (by rfl) _ oO.out bA rfl (bD _ _ _ _ _) ?_;intro w6 hs6;have lg:=Lib.hid hs6;clear hs6)
     refine bJ rfl rfl rfl lg.out.1 ⟨⟨_,rfl,?_⟩,lg.out.below jI.out (by omega)⟩
     rw[HRR.out,if_neg (fun h=>h HZ.out),if_pos HK.out,HA.out]
     exact⟨none,none,0,0,rfl,Nat.le_refl _,Nat.le_refl _,aj.nil _ _ _,jM _ _⟩
    |some y=>
     have hnm:jH T ki= .agg #[.int .i64 ki, .int .i64 y.kind, .int .i64 y.links, .int .i64 y.b.length, .int .u64 y.au, .bool y.closed]:=by unfold jH;rw[ha];rfl
     rw[hnm]at HN
     have HA:=Lib.hid ha
     clear ha hnm
     go_wp2_with fail
     (with_reducible refine HN.out.mono ?_)
     rintro e w5 ⟨rfl,hb5⟩
     have jI:Hid (Below w.heap.size w (w5.alloc (.cells #[.int .i64 ki, .int .i64 y.kind, .int .i64 y.links, .int .i64 y.b.length, .int .u64 y.au, .bool y.closed] 34))):=Lib.hid (iq.out.trans ((hb5.trans ((wall w5 (.cells #[.int .i64 ki, .int .i64 y.kind, .int .i64 y.links, .int .i64 y.b.length, .int .u64 y.au, .bool y.closed] 34)).mono hb5.size)).mono iq.out.size))
     have oO:Hid ((w5.alloc (.cells #[.int .i64 ki, .int .i64 y.kind, .int .i64 y.links, .int .i64 y.b.length, .int .u64 y.au, .bool y.closed] 34)).heap[w.heap.size+1]? =some (.cells (b_ (bW 0) none none 0 0) 36 (0,0))):=Lib.hid (((hb5.trans ((wall w5 (.cells #[.int .i64 ki, .int .i64 y.kind, .int .i64 y.links, .int .i64 y.b.length, .int .u64 y.au, .bool y.closed] 34)).mono hb5.size)).block _ (Array.getElem?_eq_some_iff.1 HR4.out).1).trans HR4.out)
     clear hb5
     go_wp2_with (refine ak (by rfl) 36 _ _ (by rfl) (w.heap.size+1) (b_ ⟨0,0,[],[],some (ki,y)⟩ none none 0 0) (by rfl) (by rfl) _ oO.out bA rfl (bD _ _ _ _ _) ?_;intro w6 hs6;have lg:=Lib.hid hs6;clear hs6)
     refine bJ rfl rfl rfl lg.out.1 ⟨⟨_,rfl,?_⟩,lg.out.below jI.out (by omega)⟩
     rw[HRR.out,if_neg (fun h=>h HZ.out),if_pos HK.out,HA.out]
     exact⟨none,none,0,0,rfl,Nat.le_refl _,Nat.le_refl _,aj.nil _ _ _,jM _ _⟩
   ·have HK:=Lib.hid hk
    have hk2:(x.kind==12)=false:=by simpa using hk
    clear hk
    have HL:=Lib.hid (HLI.out _ Ue.out)
    obtain⟨lm,hlm⟩:∃lm,lm=ql T ki:=⟨_,rfl⟩
    rw[←hlm]at HL HRR
    clear hlm
    obtain⟨ln,le⟩:=lm
    go_wp2_with fail
    (with_reducible refine HL.out.mono ?_)
    rintro e w5 ⟨la,lc,rfl,hlc,hst,hb5⟩
    have jI:=Lib.hid (iq.out.trans (hb5.mono iq.out.size))
    have oO:=Lib.hid ((hb5.block _ (Array.getElem?_eq_some_iff.1 HR4.out).1).trans HR4.out)
    have VU:=Lib.hid hb5
    have uw:=Lib.hid hlc
    have HST:=Lib.hid hst
    clear hb5 hlc hst
    dsimp only
    go_wp2_with (refine ak (by rfl) 36 _ _ (by rfl) (w.heap.size+1) (b_ ⟨le,ln.length,[],ln,none⟩ none la 0 lc) (by rfl) (by rfl) _ oO.out bA rfl (bD _ _ _ _ _) ?_;intro w6 hs6;have lg:=Lib.hid hs6;clear hs6)
    refine bJ rfl rfl rfl lg.out.1 ⟨⟨_,rfl,?_⟩,lg.out.below jI.out (by omega)⟩
    rw[HRR.out,if_neg (fun h=>h HZ.out),if_neg HK.out]
    refine⟨none,la,0,lc,rfl,Nat.le_refl _,uw.out,aj.nil _ _ _,?_⟩
    have h2:=HB2.out.size
    have h3:=QG.out.size
    have h34:=Ue.out.size
    have hlt:=(Array.getElem?_eq_some_iff.1 HR4.out).1
    refine⟨HST.out.row.move (by rw[lg.out.2.2];exact Nat.le_refl _) fun b hb hbw=>⟨⟨Decidable.byContradiction fun h0=> ?_,by rw[lg.out.2.2];exact hb.2⟩,lg.out.2.1.block b hbw (fun e:b=w.heap.size+1=> ?_)⟩,HST.out.short⟩
    ·have:=(vO.out.new b h0).2
     have:=hb.1
     omega
    ·have:=hb.1
     omega
  ·have HZ:=Lib.hid hz
   have hz2:(ke !=0)=true:=by simpa using hz
   clear hz
   go_wp2_with fail
   (with_reducible refine(gu _ _).mono ?_)
   rintro e w5 ⟨rfl,hb5⟩
   unfold uV
   have jI:=Lib.hid (iq.out.trans (hb5.mono iq.out.size))
   have oO:=Lib.hid ((hb5.block _ (Array.getElem?_eq_some_iff.1 HR4.out).1).trans HR4.out)
   clear hb5
   go_wp2_with (refine ak (by rfl) 36 _ _ (by rfl) (w.heap.size+1) (b_ (bW ke) none none 0 0) (by rfl) (by rfl) _ oO.out bA rfl (bD _ _ _ _ _) ?_;intro w6 hs6;have lg:=Lib.hid hs6;clear hs6)
   refine bJ rfl rfl rfl lg.out.1 ⟨⟨_,rfl,?_⟩,lg.out.below jI.out (by omega)⟩
   rw[HRR.out,if_pos HZ.out]
   exact nR.WG _ _ _
end
end Go.Proofs.YtmabllemjkcobaaGreatDoor
