/- package state: open. The contracts of package clock, and known of permafrostlaw8: what each call returns; the world stays as it was. The contracts of package worm's rules for one node: what each call returns; what was there stays as it was. package state: unlink. -/
import Derived.Test.YtmabllemjkcobaaGreatDoorM30
import Derived.Test.YtmabllemjkcobaaGreatDoorM01
namespace Go.Proofs.YtmabllemjkcobaaGreatDoor
open Go.ChangeShapes Go.WideShapes Go.ChangeAt Go.RowKit
set_option linter.unusedVariables false
set_option linter.unusedSimpArgs false
def DL (M:eF) (T:aK) (ls:List Nm):rO×eF:=
 if (bq T ls).2≠0 then(bW (bq T ls).2,M)else
 match ah (bq T ls).1 T with
 |none=>(bW 25,M)
 |some y=>if y.kind=2 then(bW 22,M)else if y.closed=false then(bW 25,M)else
  (⟨0,kS M,[],[],none⟩,M.put (kS M).toNat (some ⟨false,0,nJ T (bq T ls).1 0 y.b.length⟩))
def iC (M:eF) (ls:List Nm) (id:Int):rO×eF:=match jq M id with
 |none=>(bW 29,M)
 |some T=>if kS M<0 then(bW 25,M)else DL M T ls
section
variable {W w:World} {o:Mark} {i j k l p:Nat} {M:eF}
set_option maxRecDepth 100000 in
set_option maxHeartbeats 16000000 in
theorem JV {S:Nat→Prop} (hS:aU o i j k w p M) (hM:Marks W o w) (hk:Mk i j k l) (hok:dI M.t) (wJ:M.s.l.length≤1000) (a:Option Addr) (n c:Nat) (ls:List Nm) (hls:aO S w a n (ls.map strOf)) (id:Int) (hid:∀T,jq M id=some T→(Lit.int .i64 (bq T ls).1).wf=true):
  Calls Tryz.prog 39 #[ptr p, .slice a n c, .int .i64 id] w (Ak o i j k l w p (iC M ls id)):=by
 have HKK:=Lib.hid hk
 have HM:=Lib.hid hM
 have HS:=Lib.hid hS
 obtain⟨w2,hw2⟩:∃w2,w2=w.alloc (.cells (b_ (bW 0) none none 0 0) 36):=⟨_,rfl⟩
 have hb2:Below w.heap.size w w2:=by rw[hw2];exact wall w _
 have hre:w2.heap[w.heap.size]? =some (.cells (b_ (bW 0) none none 0 0) 36 (0,0)):=by rw[hw2];exact(MapKept.heap_alloc w _).1
 obtain⟨n1,n2,n3,n4,n5,n6,n7,n8,n9,n10⟩:=hk.ne
 obtain⟨o1,hs1,hl1,hl2⟩:=fZ HM.out l (fun b=>b=w.heap.size) (w':=w2) (fun b hb=>by subst hb;exact⟨Nat.le_refl _,(Array.getElem?_eq_some_iff.1 hre).1⟩) hb2
 have hS1:aU o1 i j k w2 p M:=HS.out.step (fun e=>n4 e.symm) n7 n9 n10 hs1
 have hM1:Marks W o1 w2:=HM.out.step (fun e=>n4 e.symm) hs1
 have HAT:Hid (Calls Tryz.prog 96 #[ptr p, .int .i64 id] (w.alloc (.cells (b_ (bW 0) none none 0 0) 36)) (AtRet o1 j w2 M id)):=by rw[←hw2];exact Lib.hid (Nh hS1 hM1 hok wJ id)
 unfold b_ bW at HAT
 dsimp only[List.length_nil]at HAT
 have Sj:=Lib.hid (hls.below hb2 (Nat.le_refl _))
 have mg:=Lib.hid hre
 have HB2:=Lib.hid hb2
 have mU:=Lib.hid hS1
 have jB:=Lib.hid hM1
 have ED:=Lib.hid (hl1 _ rfl)
 have l8:=Lib.hid hs1
 have Af:=Lib.hid hid
 have oQ:Hid (∀(z:rO) (w4 w5:World),Below w2.heap.size w2 w4→jC w4 w.heap.size (b_ z none none 0 0) 36 w5→z.data=[]→z.names=[]→Ak o i j k l w p (z,M) (.returned (.agg (b_ z none none 0 0))) w5):=fun z w4 w5 hb hs hz1 hz2=>by
  have oG:=jB.out.step (I:=fun _=>False) (fun e=>e) (Step.grow jB.out hb)
  have hst:=hs.step oG ED.out
  have nS:=(mU.out.grow jB.out hb).step (fun e=>n4 e.symm) n7 n9 n10 hst
  refine⟨o1,⟨_,rfl,none,none,0,0,rfl,by rw[hz1];exact Nat.le_refl _,by rw[hz2];exact Nat.le_refl _,by rw[hz1];exact aj.nil _ _ _,by rw[hz2];exact jM _ _⟩,((l8.out.trans (Step.grow jB.out hb)).trans hst).mono fun m hm=> .inr (.inr (.inr hm)),nS⟩
 clear hS hM hk hok wJ hls hid hre hb2 hw2 hS1 hM1 hl1 hl2 hs1
 go_enter Tryz.func39,Tryz.ntmps39
 go_wp2_with fail
 (with_reducible refine HAT.out.mono ?_)
 rintro e w3 ⟨hb3,hat⟩
 have HB3:=Lib.hid hb3
 have HR3:=Lib.hid ((hb3.block _ (Array.getElem?_eq_some_iff.1 mg.out).1).trans mg.out)
 rcases hat with⟨hT,rfl⟩|⟨T,q,hT,rfl,⟨m,hTr⟩,H8⟩
 ·have HT:=Lib.hid hT
  clear hT hb3
  go_wp2_with fail
  (with_reducible refine(gu _ _).mono ?_)
  rintro e w9 ⟨rfl,fM⟩
  unfold uV
  have qz:=Lib.hid (HB3.out.trans (fM.mono HB3.out.size))
  have zo:=Lib.hid ((fM.block _ (Array.getElem?_eq_some_iff.1 HR3.out).1).trans HR3.out)
  clear fM
  go_wp2_with (refine ak (by rfl) 36 _ _ (by rfl) w.heap.size (b_ (bW 29) none none 0 0) (by rfl) (by rfl) _ zo.out bA rfl (bD _ _ _ _ _) ?_;intro Cb j6;have kZ:=Lib.hid j6;clear j6)
  refine bJ rfl rfl rfl kZ.out.1 ?_
  have e2:iC M ls id=(bW 29,M):=by unfold iC;rw[HT.out]
  rw[e2]
  exact oQ.out _ _ _ qz.out kZ.out rfl rfl
 ·have HFR:=Lib.hid (DI (mU.out.grow jB.out hb3))
  obtain⟨g,D,mb,ib,nb,hA,-,-⟩:=hTr
  have hid:=Af.out T hT
  have mO:Hid (∀w',Below w3.heap.size w3 w'→Calls Tryz.prog 97 #[ptr q, .slice a n c] w' fun e w''=>e= .returned (.tuple #[.int .i64 (bq T ls).1, .int .i64 (bq T ls).2])∧Below w'.heap.size w' w''):=fun w' hb=>Bc a n c ls w' (hA.below hb (Nat.le_refl _)) H8 ((Sj.out.below hb3 (Nat.le_refl _)).below hb (Nat.le_refl _))
  have I9:Hid (∀w',Below w3.heap.size w3 w'→Calls Tryz.prog 98 #[ptr q, .int .i64 (bq T ls).1] w' fun e w''=>e= .returned (.tuple #[jH T (bq T ls).1, .bool (ah (bq T ls).1 T).isSome])∧Below w'.heap.size w' w''):=fun w' hb=>sV _ w' (hA.below hb (Nat.le_refl _)) hid
  have JW:Hid (∀w' (N:Int),(Lit.int .i64 N).wf=true→Below w3.heap.size w3 w'→Calls Tryz.prog 99 #[ptr q, .int .i64 (bq T ls).1, .int .i64 0, .int .i64 N] w' (pF w' (nJ T (bq T ls).1 0 N) (zL T (bq T ls).1 0 N))):=fun w' N hN hb=>LB _ 0 N w' (hA.below hb (Nat.le_refl _)) (fun x hx=>(H8.each _ x hx).size) hid (by decide) hN
  have HYL:Hid (∀y,ah (bq T ls).1 T=some y→y.b.length≤4096):=fun y hy=>(H8.each _ y hy).size
  have HT:=Lib.hid hT
  have QG:=Lib.hid hb3
  clear hT hA H8 hid hb3
  go_wp2_with fail
  (with_reducible refine HFR.out.mono ?_)
  rintro e w4 ⟨v,rfl,hfr,rfl⟩
  have hv:=hfr.eq
  rcases hfr with⟨rfl,hfull⟩|⟨fm,C_,rfl,hfm,hfl⟩
  ·have HV:=Lib.hid hv
   clear hv hfull
   go_wp2_with fail
   (with_reducible refine(gu _ _).mono ?_)
   rintro e w9 ⟨rfl,fM⟩
   unfold uV
   have qz:=Lib.hid (HB3.out.trans (fM.mono HB3.out.size))
   have zo:=Lib.hid ((fM.block _ (Array.getElem?_eq_some_iff.1 HR3.out).1).trans HR3.out)
   clear fM
   go_wp2_with (refine ak (by rfl) 36 _ _ (by rfl) w.heap.size (b_ (bW 25) none none 0 0) (by rfl) (by rfl) _ zo.out bA rfl (bD _ _ _ _ _) ?_;intro Cb j6;have kZ:=Lib.hid j6;clear j6)
   refine bJ rfl rfl rfl kZ.out.1 ?_
   have e2:iC M ls id=(bW 25,M):=by unfold iC;rw[HT.out];exact if_pos (by rw[←HV.out];omega)
   rw[e2]
   exact oQ.out _ _ _ qz.out kZ.out rfl rfl
  ·have HV:=Lib.hid hv
   have hdn:decide ((fm:Int)<0)=false:=by simp
   have hneg:¬((fm:Int)<0):=by omega
   have K4:Hid (iC M ls id=DL M T ls):=by unfold iC;rw[HT.out];exact Lib.hid (if_neg (by rw[←HV.out];omega))
   have WQ:=Lib.hid (mO.out w4 (Below.refl _ _))
   clear hv hfm hfl
   unfold DL at K4
   obtain⟨ki,hki⟩:∃ki,ki=(bq T ls).1:=⟨_,rfl⟩
   obtain⟨ke,hke⟩:∃ke,ke=(bq T ls).2:=⟨_,rfl⟩
   rw[←hki,←hke]at WQ K4
   rw[←hki]at I9 JW HYL
   clear hki hke
   go_wp2_with fail
   (with_reducible refine WQ.out.mono ?_)
   rintro e w5 ⟨rfl,hb5⟩
   have FP:=Lib.hid hb5
   have jI:=Lib.hid (HB3.out.trans (hb5.mono HB3.out.size))
   have oO:=Lib.hid ((hb5.block _ (Array.getElem?_eq_some_iff.1 HR3.out).1).trans HR3.out)
   clear hb5
   by_cases hz:ke=0
   ·have HZ:=Lib.hid hz
    have hz2:(ke !=0)=false:=by simpa using hz
    clear hz
    have HN:=Lib.hid (I9.out _ FP.out)
    cases ha:ah ki T with
    |none=>
     have hnm:jH T ki= .agg #[.int .i64 0, .int .i64 0, .int .i64 0, .int .i64 0, .int .u64 0, .bool false]:=by unfold jH;rw[ha]
     rw[hnm]at HN
     have HA:=Lib.hid ha
     clear ha hnm
     go_wp2_with fail
     (with_reducible refine HN.out.mono ?_)
     rintro e w6 ⟨rfl,hb6⟩
     have tY:Below w5.heap.size w5 (w6.alloc (.cells #[.int .i64 0, .int .i64 0, .int .i64 0, .int .i64 0, .int .u64 0, .bool false] 34)):=hb6.trans ((wall w6 _).mono hb6.size)
     have Uf:=Lib.hid (FP.out.trans (tY.mono FP.out.size))
     have rH:=Lib.hid (jI.out.trans (tY.mono jI.out.size))
     have EF:=Lib.hid ((tY.block _ (Array.getElem?_eq_some_iff.1 oO.out).1).trans oO.out)
     clear tY hb6
     go_wp2_with fail
     (with_reducible refine(gu _ _).mono ?_)
     rintro e w9 ⟨rfl,fM⟩
     unfold uV
     have qz:=Lib.hid (rH.out.trans (fM.mono rH.out.size))
     have zo:=Lib.hid ((fM.block _ (Array.getElem?_eq_some_iff.1 EF.out).1).trans EF.out)
     clear fM
     go_wp2_with (refine ak (by rfl) 36 _ _ (by rfl) w.heap.size (b_ (bW 25) none none 0 0) (by rfl) (by rfl) _ zo.out bA rfl (bD _ _ _ _ _) ?_;intro Cb j6;have kZ:=Lib.hid j6;clear j6)
     refine bJ rfl rfl rfl kZ.out.1 ?_
     have e2:iC M ls id=(bW 25,M):=K4.out.trans ((if_neg (fun h=>h HZ.out)).trans (by rw[HA.out]))
     rw[e2]
     exact oQ.out _ _ _ qz.out kZ.out rfl rfl
    |some y=>
     cases hcl:y.closed with
     |false=>
      have Ce:=Lib.hid hcl
      have hnm:jH T ki= .agg #[.int .i64 ki, .int .i64 y.kind, .int .i64 y.links, .int .i64 y.b.length, .int .u64 y.au, .bool false]:=by unfold jH;rw[ha];show qK ki y=_;unfold qK;rw[hcl]
      clear hcl
      rw[hnm]at HN
      have HA:=Lib.hid ha
      clear ha hnm
      go_wp2_with fail
      (with_reducible refine HN.out.mono ?_)
      rintro e w6 ⟨rfl,hb6⟩
      have tY:Below w5.heap.size w5 (w6.alloc (.cells #[.int .i64 ki, .int .i64 y.kind, .int .i64 y.links, .int .i64 y.b.length, .int .u64 y.au, .bool false] 34)):=hb6.trans ((wall w6 _).mono hb6.size)
      have Uf:=Lib.hid (FP.out.trans (tY.mono FP.out.size))
      have rH:=Lib.hid (jI.out.trans (tY.mono jI.out.size))
      have EF:=Lib.hid ((tY.block _ (Array.getElem?_eq_some_iff.1 oO.out).1).trans oO.out)
      clear tY hb6
      by_cases hk:y.kind=2
      ·have HK:=Lib.hid hk
       have hk2:(y.kind==2)=true:=by simpa using hk
       clear hk
       go_wp2_with fail
       (with_reducible refine(gu _ _).mono ?_)
       rintro e w9 ⟨rfl,fM⟩
       unfold uV
       have qz:=Lib.hid (rH.out.trans (fM.mono rH.out.size))
       have zo:=Lib.hid ((fM.block _ (Array.getElem?_eq_some_iff.1 EF.out).1).trans EF.out)
       clear fM
       go_wp2_with (refine ak (by rfl) 36 _ _ (by rfl) w.heap.size (b_ (bW 22) none none 0 0) (by rfl) (by rfl) _ zo.out bA rfl (bD _ _ _ _ _) ?_;intro Cb j6;have kZ:=Lib.hid j6;clear j6)
       refine bJ rfl rfl rfl kZ.out.1 ?_
       have e2:iC M ls id=(bW 22,M):=K4.out.trans ((if_neg (fun h=>h HZ.out)).trans (by rw[HA.out];exact if_pos HK.out))
       rw[e2]
       exact oQ.out _ _ _ qz.out kZ.out rfl rfl
      ·have HK:=Lib.hid hk
       have hk2:(y.kind==2)=false:=by simpa using hk
       clear hk
       go_wp2_with fail
       (with_reducible refine(gu _ _).mono ?_)
       rintro e w9 ⟨rfl,fM⟩
       unfold uV
       have qz:=Lib.hid (rH.out.trans (fM.mono rH.out.size))
       have zo:=Lib.hid ((fM.block _ (Array.getElem?_eq_some_iff.1 EF.out).1).trans EF.out)
       clear fM
       go_wp2_with (refine ak (by rfl) 36 _ _ (by rfl) w.heap.size (b_ (bW 25) none none 0 0) (by rfl) (by rfl) _ zo.out bA rfl (bD _ _ _ _ _) ?_;intro Cb j6;have kZ:=Lib.hid j6;clear j6)
       refine bJ rfl rfl rfl kZ.out.1 ?_
       have e2:iC M ls id=(bW 25,M):=K4.out.trans ((if_neg (fun h=>h HZ.out)).trans (by rw[HA.out];exact(if_neg HK.out).trans (if_pos Ce.out)))
       rw[e2]
       exact oQ.out _ _ _ qz.out kZ.out rfl rfl
     |true=>
      have Ce:=Lib.hid hcl
      have hnm:jH T ki= .agg #[.int .i64 ki, .int .i64 y.kind, .int .i64 y.links, .int .i64 y.b.length, .int .u64 y.au, .bool true]:=by unfold jH;rw[ha];show qK ki y=_;unfold qK;rw[hcl]
      clear hcl
      rw[hnm]at HN
      have HA:=Lib.hid ha
      clear ha hnm
      go_wp2_with fail
      (with_reducible refine HN.out.mono ?_)
      rintro e w6 ⟨rfl,hb6⟩
      have tY:Below w5.heap.size w5 (w6.alloc (.cells #[.int .i64 ki, .int .i64 y.kind, .int .i64 y.links, .int .i64 y.b.length, .int .u64 y.au, .bool true] 34)):=hb6.trans ((wall w6 _).mono hb6.size)
      have Uf:=Lib.hid (FP.out.trans (tY.mono FP.out.size))
      have rH:=Lib.hid (jI.out.trans (tY.mono jI.out.size))
      have EF:=Lib.hid ((tY.block _ (Array.getElem?_eq_some_iff.1 oO.out).1).trans oO.out)
      clear tY hb6
      by_cases hk:y.kind=2
      ·have HK:=Lib.hid hk
       have hk2:(y.kind==2)=true:=by simpa using hk
       clear hk
       go_wp2_with fail
       (with_reducible refine(gu _ _).mono ?_)
       rintro e w9 ⟨rfl,fM⟩
       unfold uV
       have qz:=Lib.hid (rH.out.trans (fM.mono rH.out.size))
       have zo:=Lib.hid ((fM.block _ (Array.getElem?_eq_some_iff.1 EF.out).1).trans EF.out)
       clear fM
       go_wp2_with (refine ak (by rfl) 36 _ _ (by rfl) w.heap.size (b_ (bW 22) none none 0 0) (by rfl) (by rfl) _ zo.out bA rfl (bD _ _ _ _ _) ?_;intro Cb j6;have kZ:=Lib.hid j6;clear j6)
       refine bJ rfl rfl rfl kZ.out.1 ?_
       have e2:iC M ls id=(bW 22,M):=K4.out.trans ((if_neg (fun h=>h HZ.out)).trans (by rw[HA.out];exact if_pos HK.out))
       rw[e2]
       exact oQ.out _ _ _ qz.out kZ.out rfl rfl
      ·have HK:=Lib.hid hk
       have hk2:(y.kind==2)=false:=by simpa using hk
       clear hk
       have Vr:=Lib.hid (JW.out _ (y.b.length:Int) (gB (by have:=HYL.out y HA.out;omega) (by have:=HYL.out y HA.out;omega)) Uf.out)
       go_wp2_with fail
       (with_reducible refine Vr.out.mono ?_)
       rintro e w8 ⟨ra,rn,rc,rfl,hrn,hrr,Ag⟩
       have hrl:(nJ T ki 0 y.b.length).length=rn:=by have:=hrr.length;simpa using this
       have wQ:=Lib.hid (rH.out.trans (Ag.mono rH.out.size))
       have JX:=Lib.hid ((Ag.block _ (Array.getElem?_eq_some_iff.1 EF.out).1).trans EF.out)
       have QH:=jB.out.step (I:=fun _=>False) (fun e=>e) (Step.grow jB.out wQ.out)
       have TI:=mU.out.grow jB.out wQ.out
       have Cg:Below w8.heap.size w8 (w8.alloc (.cells #[.bool false, .int .i64 0, .slice ra rn rc] 141)):=wall w8 _
       have YN:=Lib.hid (QH.step (I:=fun _=>False) (fun e=>e) (Step.grow QH Cg))
       have hfree:o1 w8.heap.size=0:=Decidable.byContradiction fun h9=>by have:=(QH.new _ h9).2;omega
       have Js:=jB.out.step (I:=fun _=>False) (fun e=>e) (Step.grow jB.out rH.out)
       have hrow:aj (Free o1 (w8.alloc (.cells #[.bool false, .int .i64 0, .slice ra rn rc] 141))) (w8.alloc (.cells #[.bool false, .int .i64 0, .slice ra rn rc] 141)) ra rn ((nJ T ki 0 y.b.length).map bv):=(aj.xJ Js hrr).move Cg.size fun b hb hbw=>⟨⟨hb.1,Nat.lt_of_lt_of_le hb.2 Cg.size⟩,Cg.block b hbw⟩
       have sM:tT o1 (w8.alloc (.cells #[.bool false, .int .i64 0, .slice ra rn rc] 141)) (ptr w8.heap.size) (some ⟨false,0,nJ T ki 0 y.b.length⟩):=by
        refine⟨w8.heap.size,ra,rc,rfl,hfree,by simp,?_,by rw[hrl];exact hrn,by rw[hrl];exact hrow⟩
        rw[hrl]
        exact(MapKept.heap_alloc w8 _).1
       have nE:=Lib.hid ((TI.grow QH Cg).put YN.out HKK.out fm C_ (ptr w8.heap.size) _ sM)
       obtain⟨t',s',v',k1,k2,k3,k4⟩:=(TI.grow QH Cg).at_
       obtain⟨y0,y1,y2,y3,y4⟩:=fH k1
       have WM:=y3 fm C_
       have WO:=y4 (3+fm)
       have zo:Hid (((w8.alloc (.cells #[.bool false, .int .i64 0, .slice ra rn rc] 141)).setCell ⟨p,3+fm,none⟩ (ptr w8.heap.size)).heap[w.heap.size]? =some (.cells (b_ (bW 0) none none 0 0) 36 (0,0))):=Lib.hid ((nE.out.1.block (b:=w.heap.size) (Nat.lt_of_lt_of_le (Array.getElem?_eq_some_iff.1 JX.out).1 Cg.size) (by rw[ED.out];exact fun e=>n10 e.symm)).trans ((Cg.block _ (Array.getElem?_eq_some_iff.1 JX.out).1).trans JX.out))
       have i0:(0:Int)≤fm:=by omega
       have i1:(fm:Int)<8:=by omega
       have qz:=Lib.hid (wQ.out.trans (Cg.mono wQ.out.size))
       clear k1 k2 k3 k4 TI QH hfree y0 y1 y2 y3 y4 Cg hrow sM hrr Ag hrl Js
       go_wp2_with (refine ak (by rfl) 36 _ _ (by rfl) w.heap.size (b_ ⟨0,fm,[],[],none⟩ none none 0 0) (by rfl) (by rfl) _ zo.out bA rfl (bD _ _ _ _ _) ?_;intro Cb j6;have kZ:=Lib.hid j6;clear j6)
       refine bJ rfl rfl rfl kZ.out.1 ?_
       have e2:iC M ls id=(⟨0,fm,[],[],none⟩,M.put fm (some ⟨false,0,nJ T ki 0 y.b.length⟩)):=by
        refine K4.out.trans ((if_neg (fun h=>h HZ.out)).trans ?_)
        rw[HA.out]
        refine(if_neg HK.out).trans ((if_neg (by rw[Ce.out];simp)).trans ?_)
        rw[←HV.out]
        rfl
       rw[e2]
       have hM10:=YN.out.step (I:=fun m=>m=k) (fun e=>n3 e.symm) nE.out.1
       have hst:=kZ.out.step hM10 ED.out
       exact⟨o1,⟨_,rfl,none,none,0,0,rfl,Nat.le_refl _,Nat.le_refl _,aj.nil _ _ _,jM _ _⟩,(((l8.out.mono fun m hm=> .inr (.inr (.inr hm))).trans (Step.grow jB.out qz.out)).trans (nE.out.1.mono fun m hm=> .inr (.inr (.inl hm)))).trans (hst.mono fun m hm=> .inr (.inr (.inr hm))),nE.out.2.step (fun e=>n4 e.symm) n7 n9 n10 hst⟩
   ·have HZ:=Lib.hid hz
    have hz2:(ke !=0)=true:=by simpa using hz
    clear hz
    go_wp2_with fail
    (with_reducible refine(gu _ _).mono ?_)
    rintro e w9 ⟨rfl,fM⟩
    unfold uV
    have qz:=Lib.hid (jI.out.trans (fM.mono jI.out.size))
    have zo:=Lib.hid ((fM.block _ (Array.getElem?_eq_some_iff.1 oO.out).1).trans oO.out)
    clear fM
    go_wp2_with (refine ak (by rfl) 36 _ _ (by rfl) w.heap.size (b_ (bW ke) none none 0 0) (by rfl) (by rfl) _ zo.out bA rfl (bD _ _ _ _ _) ?_;intro Cb j6;have kZ:=Lib.hid j6;clear j6)
    refine bJ rfl rfl rfl kZ.out.1 ?_
    have e2:iC M ls id=(bW ke,M):=K4.out.trans (if_pos HZ.out)
    rw[e2]
    exact oQ.out _ _ _ qz.out kZ.out rfl rfl
end
def DN (a b:Int):Bool:=decide (b≤a)
def yj (now tick:Int):Int:=if tick≤1099511627776 then max now tick else now
theorem oU (t:Int) (w:World):
  Calls Tryz.prog 88 #[.int .u64 t] w fun e w'=>e= .returned (.bool (decide (t≤1099511627776)))∧w=w':=by
 go_enter Tryz.func88,Tryz.ntmps88
 go_wp2
 go_ret
 exact⟨rfl,rfl⟩
theorem pU (a b:Int) (w:World):
  Calls Tryz.prog 177 #[.int .u64 a, .int .u64 b] w fun e w'=>e= .returned (.bool (DN a b))∧w=w':=by
 go_enter Tryz.func177,Tryz.ntmps177
 go_wp2
 go_ret
 exact⟨rfl,rfl⟩
theorem Nj (a b:Int) (w:World):
  Calls Tryz.prog 50 #[.int .u64 a, .int .u64 b] w fun e w'=>e= .returned (.int .u64 (yj a b))∧w=w':=by
 by_cases h:b≤1099511627776
 ·go_enter Tryz.func50,Tryz.ntmps50
  go_wp2
  all_goals
   go_ret
   exact⟨eO (by unfold yj;split<;>omega),rfl⟩
 ·go_enter Tryz.func50,Tryz.ntmps50
  go_wp2
  all_goals
   go_ret
   exact⟨eO (by unfold yj;split<;>omega),rfl⟩
def kindOf (k:Int):Int:=if k=1 then 0 else if k=2 then 22 else 30
def jN (k l u:Int) (c:Bool) (now:Int):Int:=if k=1∧c=true∧l≤1∧now<u then 28 else kindOf k
def pV (k u:Int) (c:Bool) (till:Int):Int:=
 if k=1 then(if c=false then 25 else if till<u then 28 else if 1099511627776<till then 1 else 0)else kindOf k
theorem iO (i k l s u:Int) (c:Bool) (w:World):
  Calls Tryz.prog 176 #[.agg #[.int .i64 i, .int .i64 k, .int .i64 l, .int .i64 s, .int .u64 u, .bool c]] w fun e w'=>e= .returned (.int .i64 (kindOf k))∧w.alloc (.cells #[.int .i64 i, .int .i64 k, .int .i64 l, .int .i64 s, .int .u64 u, .bool c] 34)=w':=by
 by_cases h1:k=1
 ·subst h1
  go_enter Tryz.func176,Tryz.ntmps176
  go_wp2
  go_ret
  exact⟨rfl,rfl⟩
 ·by_cases h2:k=2
  ·subst h2
   go_enter Tryz.func176,Tryz.ntmps176
   go_wp2
   go_ret
   exact⟨rfl,rfl⟩
  ·have e1:(k==1)=false:=by simp[h1]
   have e2:(k==2)=false:=by simp[h2]
   go_enter Tryz.func176,Tryz.ntmps176
   go_wp2
   go_ret
   exact⟨eO (by simp[kindOf,h1,h2]),rfl⟩
theorem jd:kindOf 1=0:=rfl
theorem Ao (k:Int) (h:k≠1):(kindOf k==0)=false∧(kindOf k !=0)=true:=by
 unfold kindOf;rw[if_neg h];split<;>decide
theorem DR (i k l s u:Int) (c:Bool) (now:Int) (w:World):
  Calls Tryz.prog 106 #[.agg #[.int .i64 i, .int .i64 k, .int .i64 l, .int .i64 s, .int .u64 u, .bool c], .int .u64 now] w fun e w'=>e= .returned (.int .i64 (jN k l u c now))∧Below w.heap.size w w':=by
 by_cases h1:k=1
 ·subst h1
  cases c
  ·go_enter Tryz.func106,Tryz.ntmps106
   go_wp2_with (first|(go_at_call 176;refine(iO _ _ _ _ _ _ _).mono ?_;rintro e w' ⟨rfl,rfl⟩;rw[jd])|(go_at_call 177;refine(pU _ _ _).mono ?_;rintro e w' ⟨rfl,rfl⟩))
   go_ret
   exact⟨eO (by simp[jN,kindOf]),by repeat (first|exact Below.refl _ _|refine Below.alloc ?_ (by simp) _)⟩
  ·by_cases h2:l≤1
   ·cases h3:DN now u
    ·have h4:now<u:=by simp[DN]at h3;omega
     have H:=Lib.hid h4
     clear h4
     go_enter Tryz.func106,Tryz.ntmps106
     go_wp2_with (first|(go_at_call 176;refine(iO _ _ _ _ _ _ _).mono ?_;rintro e w' ⟨rfl,rfl⟩;rw[jd])|(go_at_call 177;refine(pU _ _ _).mono ?_;rintro e w' ⟨rfl,rfl⟩))
     go_ret
     exact⟨eO (by have:=H.out;simp[jN, *]),by repeat (first|exact Below.refl _ _|refine Below.alloc ?_ (by simp) _)⟩
    ·have h4:¬now<u:=by simp[DN]at h3;omega
     have H:=Lib.hid h4
     clear h4
     go_enter Tryz.func106,Tryz.ntmps106
     go_wp2_with (first|(go_at_call 176;refine(iO _ _ _ _ _ _ _).mono ?_;rintro e w' ⟨rfl,rfl⟩;rw[jd])|(go_at_call 177;refine(pU _ _ _).mono ?_;rintro e w' ⟨rfl,rfl⟩))
     go_ret
     exact⟨eO (by have:=H.out;simp[jN,kindOf, *]),by repeat (first|exact Below.refl _ _|refine Below.alloc ?_ (by simp) _)⟩
   ·go_enter Tryz.func106,Tryz.ntmps106
    go_wp2_with (first|(go_at_call 176;refine(iO _ _ _ _ _ _ _).mono ?_;rintro e w' ⟨rfl,rfl⟩;rw[jd])|(go_at_call 177;refine(pU _ _ _).mono ?_;rintro e w' ⟨rfl,rfl⟩))
    go_ret
    exact⟨eO (by have:¬l≤1:=by omega
                 simp[jN,kindOf,this]),by repeat (first|exact Below.refl _ _|refine Below.alloc ?_ (by simp) _)⟩
 ·have e1:=(Ao k h1).1
  go_enter Tryz.func106,Tryz.ntmps106
  go_wp2_with (first|(go_at_call 176;refine(iO _ _ _ _ _ _ _).mono ?_;rintro e w' ⟨rfl,rfl⟩)|(go_at_call 177;refine(pU _ _ _).mono ?_;rintro e w' ⟨rfl,rfl⟩))
  go_ret
  exact⟨eO (by simp[jN,h1]),by repeat (first|exact Below.refl _ _|refine Below.alloc ?_ (by simp) _)⟩
theorem JY (i k l s u:Int) (c:Bool) (till:Int) (w:World):
  Calls Tryz.prog 111 #[.agg #[.int .i64 i, .int .i64 k, .int .i64 l, .int .i64 s, .int .u64 u, .bool c], .int .u64 till] w fun e w'=>e= .returned (.int .i64 (pV k u c till))∧Below w.heap.size w w':=by
 by_cases h1:k=1
 ·subst h1
  cases c
  ·go_enter Tryz.func111,Tryz.ntmps111
   go_wp2_with (first|(go_at_call 176;refine(iO _ _ _ _ _ _ _).mono ?_;rintro e w' ⟨rfl,rfl⟩;rw[jd])|(go_at_call 88;refine(oU _ _).mono ?_;rintro e w' ⟨rfl,rfl⟩))
   go_ret
   exact⟨eO (by simp[pV]),by repeat (first|exact Below.refl _ _|refine Below.alloc ?_ (by simp) _)⟩
  ·by_cases h2:till<u
   ·go_enter Tryz.func111,Tryz.ntmps111
    go_wp2_with (first|(go_at_call 176;refine(iO _ _ _ _ _ _ _).mono ?_;rintro e w' ⟨rfl,rfl⟩;rw[jd])|(go_at_call 88;refine(oU _ _).mono ?_;rintro e w' ⟨rfl,rfl⟩))
    go_ret
    exact⟨eO (by simp[pV, *]),by repeat (first|exact Below.refl _ _|refine Below.alloc ?_ (by simp) _)⟩
   ·by_cases h3:till≤1099511627776
    ·have H:=Lib.hid h2
     go_enter Tryz.func111,Tryz.ntmps111
     go_wp2_with (first|(go_at_call 176;refine(iO _ _ _ _ _ _ _).mono ?_;rintro e w' ⟨rfl,rfl⟩;rw[jd])|(go_at_call 88;refine(oU _ _).mono ?_;rintro e w' ⟨rfl,rfl⟩))
     go_ret
     exact⟨eO (by have:=H.out;have:¬1099511627776<till:=by omega
                  simp[pV, *]),by repeat (first|exact Below.refl _ _|refine Below.alloc ?_ (by simp) _)⟩
    ·have H:=Lib.hid h2
     have h5:decide (till≤1099511627776)=false:=by simp;omega
     go_enter Tryz.func111,Tryz.ntmps111
     go_wp2_with (first|(go_at_call 176;refine(iO _ _ _ _ _ _ _).mono ?_;rintro e w' ⟨rfl,rfl⟩;rw[jd])|(go_at_call 88;refine(oU _ _).mono ?_;rintro e w' ⟨rfl,rfl⟩))
     go_ret
     exact⟨eO (by have:=H.out;have:1099511627776<till:=by omega
                  simp[pV, *]),by repeat (first|exact Below.refl _ _|refine Below.alloc ?_ (by simp) _)⟩
 ·have e1:=(Ao k h1).2
  go_enter Tryz.func111,Tryz.ntmps111
  go_wp2_with (go_at_call 176;refine(iO _ _ _ _ _ _ _).mono ?_;rintro e w' ⟨rfl,rfl⟩)
  go_ret
  exact⟨eO (by simp[pV,h1]),by repeat (first|exact Below.refl _ _|refine Below.alloc ?_ (by simp) _)⟩
structure DT where
 i:Int
 k:Int
 l:Int
 s:Int
 u:Int
 c:Bool
 er:Int
def bU (T:aK) (ls:List Nm):DT:=if (bq T ls).2≠0 then⟨0,0,0,0,0,false,(bq T ls).2⟩else match ah (bq T ls).1 T with|some x=>⟨(bq T ls).1,x.kind,x.links,x.b.length,x.au,x.closed,0⟩|none=>⟨0,0,0,0,0,false,0⟩
def DT.cells (x:DT):Array Value:= #[.int .i64 x.i, .int .i64 x.k, .int .i64 x.l, .int .i64 x.s, .int .u64 x.u, .bool x.c]
theorem yt (T:aK) (ls:List Nm):rG T ls=((bU T ls).cells,(bU T ls).er):=by
 unfold rG bU
 by_cases h:(bq T ls).2≠0
 ·rw[if_pos h,if_pos h];rfl
 ·rw[if_neg h,if_neg h]
  cases ah (bq T ls).1 T<;>rfl
def gY (M:eF) (ls:List Nm):Int×eF:=
 if (bU M.t ls).er≠0 then((bU M.t ls).er,M)else
 if jN (bU M.t ls).k (bU M.t ls).l (bU M.t ls).u (bU M.t ls).c M.now≠0 then(jN (bU M.t ls).k (bU M.t ls).l (bU M.t ls).u (bU M.t ls).c M.now,M)else
 ((dP M.t ls).1,{M with t:=(dP M.t ls).2})
section
variable {W w:World} {o:Mark} {i j k l p:Nat} {M:eF}
set_option maxRecDepth 100000 in
set_option maxHeartbeats 4000000 in
theorem DU {S:Nat→Prop} (hS:aU o i j k w p M) (hM:Marks W o w) (hk:Mk i j k l) (hok:dI M.t) (a:Option Addr) (n c:Nat) (ls:List Nm) (hls:aO S w a n (ls.map strOf)) (hnc:n≤c) (nD:n≤1000000) (hid:(Lit.int .i64 (bq M.t ls).1).wf=true):
  Calls Tryz.prog 44 #[ptr p, .slice a n c] w (DJ o i j k l w p (gY M ls)):=by
 have HN:=Lib.hid (Al hS hM hok a n c ls hls hid)
 rw[yt]at HN
 have HKK:=Lib.hid hk
 have fu:=Lib.hid hok
 have HM:=Lib.hid hM
 have HS:=Lib.hid hS
 have Sj:=Lib.hid hls
 have hr:gY M ls=gY M ls:=rfl
 conv at hr=>rhs;unfold gY
 have HR:=Lib.hid hr
 clear hS hM hk hok hls hid hr
 generalize bU M.t ls=X at HN HR
 obtain⟨xi,xk,xl,xs,xu,xc,xe⟩:=X
 unfold DT.cells at HN
 go_enter Tryz.func44,Tryz.ntmps44
 go_wp2_with fail
 (with_reducible refine HN.out.mono ?_)
 rintro e w1 ⟨rfl,hb1⟩
 have HB1:=Lib.hid hb1
 have HB2:Hid (Below w.heap.size w (w1.alloc (.cells #[.int .i64 xi, .int .i64 xk, .int .i64 xl, .int .i64 xs, .int .u64 xu, .bool xc] 34))):=Lib.hid (hb1.trans ((wall _ _).mono hb1.size))
 obtain⟨n1,n2,n3,n4,n5,n6,n7,n8,n9,n10⟩:=HKK.out.ne
 clear hb1 HN
 by_cases hz:xe=0
 ·have HZ:=Lib.hid hz
  have hz2:(xe==0)=true:=by simpa using hz
  clear hz
  obtain⟨w2,hw2⟩:∃w2,w2=w1.alloc (.cells #[.int .i64 xi, .int .i64 xk, .int .i64 xl, .int .i64 xs, .int .u64 xu, .bool xc] 34):=⟨_,rfl⟩
  have hnd:w2.heap[w1.heap.size]? =some (.cells #[.int .i64 xi, .int .i64 xk, .int .i64 xl, .int .i64 xs, .int .u64 xu, .bool xc] 34 (0,0)):=by rw[hw2];exact(MapKept.heap_alloc w1 _).1
  rw[←hw2]at HB2
  have hS2:=HS.out.grow HM.out HB2.out
  have hM2:=HM.out.step (I:=fun _=>False) (fun e=>e) (Step.grow HM.out HB2.out)
  obtain⟨t,s,v,h1,h2,h3,h4⟩:=hS2.at_
  have hps:=hS2.low
  have HC:Hid (∀w',Below w2.heap.size w2 w'→w'.cell? ⟨w1.heap.size,0,none⟩=some (.int .i64 xi)∧w'.cell? ⟨w1.heap.size,1,none⟩=some (.int .i64 xk)∧w'.cell? ⟨w1.heap.size,2,none⟩=some (.int .i64 xl)∧w'.cell? ⟨w1.heap.size,3,none⟩=some (.int .i64 xs)∧w'.cell? ⟨w1.heap.size,4,none⟩=some (.int .u64 xu)∧w'.cell? ⟨w1.heap.size,5,none⟩=some (.bool xc)∧w'.cell? ⟨p,2,none⟩=some (.int .u64 M.now)∧w'.cell? ⟨p,0,none⟩=some (ptr t)):=fun w' hb=>by
   have e1:=(hb.block _ (Array.getElem?_eq_some_iff.1 hnd).1).trans hnd
   have e2:=(hb.block _ hps).trans h1
   refine⟨?_,?_,?_,?_,?_,?_,?_,?_⟩<;>simp[World.cell?,e1,e2,wU]
  have HUN:Hid (∀w',Below w2.heap.size w2 w'→Calls Tryz.prog 107 #[ptr t, .slice a n c] w' (DJ o i j k l w p ((dP M.t ls).1,{M with t:=(dP M.t ls).2}))):=fun w' hb=>by
   have PY:=hM2.step (I:=fun _=>False) (fun e=>e) (Step.grow hM2 hb)
   have EA:=hS2.grow hM2 hb
   have hst:Step o (fun m=>m=i∨m=j∨m=k∨m=l) w o w':=(Step.grow HM.out HB2.out).trans (Step.grow hM2 hb)
   have g1:=(hb.block p hps).trans h1
   have g2:=h2.grow hM2 hb
   have g4:∀n,n<8→tT o w' (v n) (M.fds n):=fun n hn=>(h4 n hn).grow hb
   refine(Jv (h3.grow hb) PY n2 fu.out a n c ls (Sj.out.below (HB2.out.trans (hb.mono HB2.out.size)) (Nat.le_refl _)) hnc nD).mono ?_
   rintro e w4 ⟨rfl,o4,hs4,kN⟩
   exact⟨rfl,o4,hst.trans (hs4.mono fun m hm=> .inr (.inl hm)),aU.tree (M:=M) HKK.out g1 g2 g4 EA.own EA.low hs4 kN⟩
  have Nk:=hw2
  clear h1 h2 h3 h4 hnd hS2 hM2 hw2
  go_wp2_with fail
  rw[←Nk]
  clear Nk
  refine wp_region_noPanic ?_
  refine wp_region_held_drew (S:=(fun w'=>w'.cell? ⟨w1.heap.size,0,none⟩=some (.int .i64 xi)∧w'.cell? ⟨w1.heap.size,1,none⟩=some (.int .i64 xk)∧w'.cell? ⟨w1.heap.size,2,none⟩=some (.int .i64 xl)∧w'.cell? ⟨w1.heap.size,3,none⟩=some (.int .i64 xs)∧w'.cell? ⟨w1.heap.size,4,none⟩=some (.int .u64 xu)∧w'.cell? ⟨w1.heap.size,5,none⟩=some (.bool xc)∧w'.cell? ⟨p,2,none⟩=some (.int .u64 M.now)∧w'.cell? ⟨p,0,none⟩=some (ptr t))) (by kernel_rfl) ?_ (fun hS=> ?_)
  ·exact HC.out _ (Below.refl _ _).drew
  refine dz 0 (hS:=hS) (h:= ?_)
  refine dz 1 (hS:=hS) (h:= ?_)
  refine dz 2 (hS:=hS) (h:= ?_)
  refine dz 3 (hS:=hS) (h:= ?_)
  refine dz 4 (hS:=hS) (h:= ?_)
  refine uW 5 (h:=fun K hK=> ?_)
  go_simp
  (with_reducible refine(DR xi xk xl xs xu xc M.now _).mono ?_)
  rintro e w3 ⟨rfl,hb3⟩
  have HB3:Hid (Below w2.heap.size w2 w3):=Lib.hid ((Below.refl _ _).drew.trans hb3)
  have M7:=Lib.hid (HC.out _ HB3.out)
  have q0:=(HC.out _ HB3.out).2.2.2.2.2.2.2
  have Vs:=Lib.hid (HUN.out _ HB3.out)
  obtain⟨re,hre⟩:∃re,re=jN xk xl xu xc M.now:=⟨_,rfl⟩
  rw[←hre]
  have mg:=Lib.hid hre
  clear hre hb3
  go_wp2_with fail
  refine hK.out _ _ (M7.out) (fun hS=> ?_)
  clear hK K
  try simp only[Act.put,List.setIfInBounds_toArray,List.set_cons_zero,List.set_cons_succ]
  refine dz 6 (hS:=hS) (h:= ?_)
  refine wpAnyH_done (by kernel_rfl) ?_ _
  refine NoPanic.normal ?_
  clear hS
  by_cases hy:re=0
  ·have HY:=Lib.hid hy
   have hy2:(re !=0)=false:=by simpa using hy
   clear hy
   go_wp2_with fail
   (with_reducible refine Vs.out.mono ?_)
   rintro e w4 ⟨rfl,ho⟩
   have HO:=Lib.hid ho
   clear ho
   go_wp2_with fail
   go_ret
   have e2:gY M ls=((dP M.t ls).1,{M with t:=(dP M.t ls).2}):=HR.out.trans ((if_neg (fun h=>h HZ.out)).trans (if_neg (fun h=>h (mg.out.symm.trans HY.out))))
   rw[e2]
   exact⟨rfl,HO.out⟩
  ·have HY:=Lib.hid hy
   have hy2:(re !=0)=true:=by simpa using hy
   clear hy
   go_wp2_with fail
   go_ret
   have e2:gY M ls=(re,M):=HR.out.trans ((if_neg (fun h=>h HZ.out)).trans ((if_pos (fun h=>HY.out (mg.out.trans h))).trans (by rw[←mg.out])))
   rw[e2]
   have hb:=HB2.out.trans (HB3.out.mono HB2.out.size)
   exact⟨rfl,o,Step.grow HM.out hb,HS.out.grow HM.out hb⟩
 ·have HZ:=Lib.hid hz
  have hz2:(xe==0)=false:=by simpa using hz
  have hz3:(xe !=0)=true:=by simpa using hz
  clear hz
  go_wp2_with fail
  go_ret
  have e2:gY M ls=(xe,M):=HR.out.trans (if_pos HZ.out)
  rw[e2]
  exact⟨rfl,o,Step.grow HM.out HB2.out,HS.out.grow HM.out HB2.out⟩
end
end Go.Proofs.YtmabllemjkcobaaGreatDoor
