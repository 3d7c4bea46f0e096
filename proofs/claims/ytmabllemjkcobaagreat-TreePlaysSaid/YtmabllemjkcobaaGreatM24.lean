/- tree: Rename. The reference: its small steps, on trees. -/
import Derived.Test.YtmabllemjkcobaaGreatM17
import Derived.Test.YtmabllemjkcobaaGreatM19
import Derived.Test.YtmabllemjkcobaaGreatM22
import Derived.Test.YtmabllemjkcobaaGreatM23
namespace Go.Proofs.YtmabllemjkcobaaGreat
open Go.ChangeShapes Go.WideShapes Go.ChangeAt Go.RowKit
set_option linter.unusedVariables false
set_option linter.unusedSimpArgs false
theorem yu (p q:List Nm):j5 (p.map strOf) (q.map strOf)=jk p q:=by
 unfold j5 jk
 rw[List.length_map,←List.map_take]
 have:((p.take q.length).map strOf=q.map strOf)↔p.take q.length=q:=by
  constructor
  ·intro h
   have:=congrArg y9 h
   rwa [nN,nN]at this
  ·intro h;rw[h]
 simp only[this]
section
variable {g:Nat→Own} {D:Nat→Prop} {p mb:Nat} {ib nb:Int→Nat} {T:aG}
theorem FJ {w w2 w3 w4:World} {d1 d2 id:Int} {n1 n2:Nm} {y:bW} (h:aO g D w p mb ib nb T) (hb:Below w.heap.size w w2) (h3:aO g D w3 p mb ib nb (aF T d1 n1)∧Keeps (fun b=>g b≠ .none) w2 w3)
  (hy:aj d2 (aF T d1 n1)=some y) (hk:y.kind=2) (hM:MapAt dN w4 (nb d2) (dF dN.lt n2 (.int .i64 id) (cO y))) (hT:w3.mapTurned w4 (nb d2)):Turn g D w p mb (setName (aF T d1 n1) d2 n2 id) (.int .i64 0) (.returned (.int .i64 0)) w4:=by
 have hg:=h3.1.kZ d2 y hy hk
 refine Turn.of rfl (h3.1.set hy hk hM hT) ((kD hb).trans (h3.2.trans ((gW hT).mono fun b _ hb=> ?_) (fun _ _ h=>h)) (fun _ _ h=>h))
 rw[show b=nb d2 from hb,hg];simp
set_option maxRecDepth 100000 in
set_option maxHeartbeats 8000000 in
theorem CW {S S':Nat→Prop} (a:Option Addr) (n c:Nat) (ls:List Nm) (a':Option Addr) (n' c':Nat) (ls':List Nm) (w:World) (h:aO g D w p mb ib nb T) (hO:fG T) (hS:aK S w a n (ls.map strOf)) (hS':aK S' w a' n' (ls'.map strOf)) (hc:n≤c) (kV:n≤1000000) (hc':n'≤c') (xA:n'≤1000000):
  Calls Tryz.prog 97 #[ptr p, .slice a n c, .slice a' n' c'] w (Turn g D w p mb (bB T ls ls').2 (.int .i64 (bB T ls ls').1)):=by
 have HH:=Lib.hid h
 have hT:=hO.1
 have HT:=Lib.hid hT
 have HF:=Lib.hid (EY a n c ls a' n' c' ls' w hS hS')
 have mZ:=Lib.hid (fun w1 (hb:Below w.heap.size w w1)=>qc a n c ls w1 (h.below hb (Nat.le_refl _)) hT (hS.below hb (Nat.le_refl _)))
 have uj:=Lib.hid (fun w1 (hb:Below w.heap.size w w1)=>tC a' n' c' ls' w1 (h.below hb (Nat.le_refl _)) hT (hS'.below hb (Nat.le_refl _)) hc' xA)
 have QD:=Lib.hid (fun w1 (hb:Below w.heap.size w w1)=>Fw a' a n' c' n c (ls'.map strOf) (ls.map strOf) w1 (hS'.below hb (Nat.le_refl _)) (hS.below hb (Nat.le_refl _)) hc')
 rw[yu]at QD
 have hl':ls'.length=n':=by have:=hS'.length;simpa using this
 have HPP:=Lib.hid (fun(d:Int) (nm:Nm) (hp:aI T ls=(d,nm,0)) w1 (hb:Below w.heap.size w w1)=>zK a n c ls w1 (h.below hb (Nat.le_refl _)) hT (hS.below hb (Nat.le_refl _)) hc kV hp)
 have HDE:=Lib.hid (fun id (hi:(aj id T).isSome=true) w1 (hb:Below w.heap.size w w1)=>Fj hT 8 id w1 (h.below hb (Nat.le_refl _)) hi (hO.Ik id) (by omega))
 have HIT:=Lib.hid (fun w1 (hb:Below w.heap.size w w1)=>h.below hb (Nat.le_refl _))
 have NZ:=Lib.hid (fun id=>(hO.Ik id).le)
 clear h hT hS hS' hO
 obtain⟨f,hf0⟩:∃f,f=je ls ls':=⟨_,rfl⟩
 rw[←hf0]at HF
 obtain⟨⟨id,e0⟩,hq⟩:∃q,q=aH T 0 ls:=⟨_,rfl⟩
 rw[←hq]at mZ
 obtain⟨⟨d,nm,z⟩,hq2⟩:∃q,q=aI T ls':=⟨_,rfl⟩
 unfold nZ at uj
 rw[←hq2]at uj
 have Bt:Hid (iM T ls ls'=if f≠0 then f else if e0≠0 then e0 else if id=0 then 1 else if z≠0 then z else if bO T id=2∧jk ls' ls=true then 1 else
   match aj nm (aX T d)with
   |some k=>if k=id then 0 else 21
   |none=>if 8<ls'.length+iB T 8 id then 3 else 0):=by
  unfold iM
  rw[←hf0,←hq,←hq2]<;>exact rfl
 have QE:Hid (∀k,iM T ls ls'=k→k≠0→bB T ls ls'=(k,T)):=fun k hk h0=>by
  unfold bB
  rw[hk,if_neg (fun h=>h0 h.1)]
 have HF0:=Lib.hid hf0
 have HQ:=Lib.hid hq
 have Wj:=Lib.hid hq2
 clear hf0 hq hq2
 go_enter Tryz.func97,Tryz.ntmps97
 go_wp2_with fail
 (with_reducible refine HF.out.mono ?_)
 rintro e w1 ⟨rfl,hb1⟩
 have HB1:=Lib.hid hb1
 clear hb1
 by_cases hf:f=0
 ·subst hf
  go_wp2_with fail
  (with_reducible refine(mZ.out w1 HB1.out).mono ?_)
  rintro e w2 ⟨rfl,rfl⟩
  by_cases he:e0=0
  ·subst he
   by_cases rH:id=0
   ·have HM:Hid (bB T ls ls'=(1,T)):=QE.out 1 (by rw[Bt.out,if_neg (by simp),if_neg (by simp),if_pos rH]) (by decide)
    subst rH
    go_wp2_with fail
    go_ret
    rw[HM.out]
    exact Turn.same HH.out HB1.out rfl
   ·have hid1:(id==0)=false:=by simpa using rH
    have Fh:=Lib.hid rH
    clear rH
    go_wp2_with fail
    (with_reducible refine(uj.out w1 HB1.out).mono ?_)
    rintro e w2 ⟨rfl,hb2⟩
    have HB2:=Lib.hid (HB1.out.trans (hb2.mono HB1.out.size))
    clear hb2
    by_cases hz:z=0
    ·subst hz
     (first|rw[if_pos rfl]|rw[if_pos trivial])
     have hfz:=oh HF0.out.symm
     obtain⟨x,hx,hxk,hnm⟩:=ig HT.out (p:=ls') (by rw[←Wj.out])
     rw[←Wj.out]at hx hnm
     have hgn:=iR hfz.2 _ hnm
     have kN:=Nj hgn
     obtain⟨y,hy⟩:=Option.isSome_iff_exists.1 (qN HQ.out.symm HT.out)
     have lq:=HT.out.ids id y hy
     have hok:bC.ok id:=mh lq.1 (by omega)
     have HG:Hid (aj id (T.map fun q=>(q.1,ptr (ib q.1)))=some (ptr (ib id))):=by rw[dR,hy];rfl
     have HX:=Lib.hid hx
     have BM:=Lib.hid hxk
     have HY:=Lib.hid hy
     have DY:=Lib.hid hgn
     have YN:=Lib.hid hfz
     have hA2:=HIT.out w2 HB2.out
     obtain⟨d7,fI⟩:=kC hA2 hx hxk
     have mK:=Lib.hid fI
     have qm:=Lib.hid hA2.map
     have q0:=hA2.cell.1
     obtain⟨_,c1,_⟩:=(hA2.item id y hy).cell
     clear hx hxk hnm hgn hy hfz hA2 fI
     have Xb:Hid (iM T ls ls'=if bO T id=2∧jk ls' ls=true then 1 else match aj nm x.names with|some k=>if k=id then 0 else 21|none=>if 8<ls'.length+iB T 8 id then 3 else 0):=by
      rw[Bt.out,if_neg (by simp),if_neg (by simp),if_neg Fh.out,if_neg (by simp),dK HX.out];exact rfl
     by_cases hwk:bO T id=2∧jk ls' ls=true
     ·have HM:Hid (bB T ls ls'=(1,T)):=QE.out 1 (by rw[Xb.out,if_pos hwk]) (by decide)
      have hk2:y.kind=2:=by rw[←bQ HY.out];exact hwk.1
      have hW:=hwk.2
      rw[hW]at QD
      rw[hk2]at c1
      clear hwk hk2 hW
      cases hj:aj nm x.names with
      |none=>
       have tF:Hid (aj nm (cO x)=none):=by rw[eB,hj];rfl
       clear hj
       go_wp2_with (first|(at_lookup;refine aJ dN rfl _ _ 112 3 rfl Tryz.underlying112 (Tryz.fq _) rfl mK.out nm rfl kN ?_;rw[tF.out])|(at_lookup;refine aW bC rfl _ _ 101 99 rfl Tryz.underlying101 (Tryz.bA _) rfl qm.out id rfl hok ?_;rw[HG.out]))
       (with_reducible refine(QD.out w2 HB2.out).mono ?_)
       rintro e w3 ⟨rfl,hb3⟩
       have HB3:=Lib.hid (HB2.out.trans (hb3.mono HB2.out.size))
       clear hb3
       go_wp2_with fail
       go_ret
       rw[HM.out]
       exact Turn.same HH.out HB3.out rfl
      |some j=>
       have tF:Hid (aj nm (cO x)=some (.int .i64 j)):=by rw[eB,hj];rfl
       clear hj
       go_wp2_with (first|(at_lookup;refine aJ dN rfl _ _ 112 3 rfl Tryz.underlying112 (Tryz.fq _) rfl mK.out nm rfl kN ?_;rw[tF.out])|(at_lookup;refine aW bC rfl _ _ 101 99 rfl Tryz.underlying101 (Tryz.bA _) rfl qm.out id rfl hok ?_;rw[HG.out]))
       (with_reducible refine(QD.out w2 HB2.out).mono ?_)
       rintro e w3 ⟨rfl,hb3⟩
       have HB3:=Lib.hid (HB2.out.trans (hb3.mono HB2.out.size))
       clear hb3
       go_wp2_with fail
       go_ret
       rw[HM.out]
       exact Turn.same HH.out HB3.out rfl
     ·have rJ:Hid (iM T ls ls'=match aj nm x.names with|some k=>if k=id then 0 else 21|none=>if 8<ls'.length+iB T 8 id then 3 else 0):=by
       rw[Xb.out,if_neg hwk];exact rfl
      by_cases hk2:y.kind=2
      ·have hW:jk ls' ls=false:=by
        cases hw:jk ls' ls with
        |false=>rfl
        |true=>exact absurd ⟨(bQ HY.out).trans hk2,hw⟩ hwk
       rw[hW]at QD
       rw[hk2]at c1
       clear hwk hk2 hW
       cases hj:aj nm x.names with
       |some j=>
        have tF:Hid (aj nm (cO x)=some (.int .i64 j)):=by rw[eB,hj];rfl
        have IC:Hid ((aj nm x.names).isSome=true):=by rw[hj];exact rfl
        rw[hj]at rJ
        clear hj
        by_cases hji:j=id
        ·rw[hji]at tF rJ
         clear hji
         have HM:Hid (bB T ls ls'=(0,T)):=by
          unfold bB
          rw[←Wj.out,dK HX.out,IC.out,rJ.out]
          simp only[if_pos,if_neg,and_false,Bool.true_eq_false,if_false]
          first|exact rfl|exact trivial
         go_wp2_with (first|(at_lookup;refine aJ dN rfl _ _ 112 3 rfl Tryz.underlying112 (Tryz.fq _) rfl mK.out nm rfl kN ?_;rw[tF.out])|(at_lookup;refine aW bC rfl _ _ 101 99 rfl Tryz.underlying101 (Tryz.bA _) rfl qm.out id rfl hok ?_;rw[HG.out]))
         (with_reducible refine(QD.out w2 HB2.out).mono ?_)
         rintro e w3 ⟨rfl,hb3⟩
         have HB3:=Lib.hid (HB2.out.trans (hb3.mono HB2.out.size))
         clear hb3
         go_wp2_with fail
         go_ret
         rw[HM.out]
         exact Turn.same HH.out HB3.out rfl
        ·have hne:(j==id)=false:=by simpa using hji
         have HM:Hid (bB T ls ls'=(21,T)):=QE.out 21 (by rw[rJ.out];simp only[if_neg hji]) (by decide)
         clear hji
         go_wp2_with (first|(at_lookup;refine aJ dN rfl _ _ 112 3 rfl Tryz.underlying112 (Tryz.fq _) rfl mK.out nm rfl kN ?_;rw[tF.out])|(at_lookup;refine aW bC rfl _ _ 101 99 rfl Tryz.underlying101 (Tryz.bA _) rfl qm.out id rfl hok ?_;rw[HG.out]))
         (with_reducible refine(QD.out w2 HB2.out).mono ?_)
         rintro e w3 ⟨rfl,hb3⟩
         have HB3:=Lib.hid (HB2.out.trans (hb3.mono HB2.out.size))
         clear hb3
         go_wp2_with fail
         go_ret
         rw[HM.out]
         exact Turn.same HH.out HB3.out rfl
       |none=>
        have tF:Hid (aj nm (cO x)=none):=by rw[eB,hj];rfl
        have HJ:=Lib.hid hj
        rw[hj]at rJ
        clear hj
        have N7:=nO YN.out.2
        have hdd:=NZ.out id
        have P7:=Lib.hid (HDE.out id (by rw[HY.out];rfl))
        unfold uM at P7
        generalize iB T 8 id=dd at rJ P7 hdd
        rw[hl']at rJ N7
        have e1:IntKind.i64.wrap ((n':Int)+(dd:Int))=(n':Int)+(dd:Int):=IntWalk.i64_in _ (by omega)
        by_cases hdp:8<n'+dd
        ·have HM:Hid (bB T ls ls'=(3,T)):=QE.out 3 (by rw[rJ.out];simp only[if_pos hdp]) (by decide)
         have hd1:decide ((8:Int)<(n':Int)+(dd:Int))=true:=by simp only[decide_eq_true_eq];omega
         clear hdp
         go_wp2_with (first|(at_lookup;refine aJ dN rfl _ _ 112 3 rfl Tryz.underlying112 (Tryz.fq _) rfl mK.out nm rfl kN ?_;rw[tF.out])|(at_lookup;refine aW bC rfl _ _ 101 99 rfl Tryz.underlying101 (Tryz.bA _) rfl qm.out id rfl hok ?_;rw[HG.out]))
         (with_reducible refine(QD.out w2 HB2.out).mono ?_)
         rintro e w3 ⟨rfl,hb3⟩
         have HB3:=Lib.hid (HB2.out.trans (hb3.mono HB2.out.size))
         clear hb3
         go_wp2_with fail
         (with_reducible refine(P7.out w3 HB3.out).mono ?_)
         rintro e w4 ⟨rfl,hb4⟩
         have eO:=Lib.hid (HB3.out.trans (hb4.mono HB3.out.size))
         clear hb4
         go_wp2_with fail
         go_ret
         rw[HM.out]
         exact Turn.same HH.out eO.out rfl
        ·have hd1:decide ((8:Int)<(n':Int)+(dd:Int))=false:=by simp only[decide_eq_false_iff_not];omega
         have hpn:ls≠[]:=fun e=>by
          have h1:id=0:=congrArg Prod.fst (HQ.out.trans (by rw[e]<;>exact(rfl:aH T 0 []=(0,0))))
          exact Fh.out h1
         obtain⟨d1,x1,n1,ep,-,hx1,Ei,hn1,FK,-⟩:=dB HQ.out.symm hpn
         have N8:=Nj (iR YN.out.1 _ FK)
         have Zp:=Lib.hid (HPP.out d1 n1 ep)
         have J8:=Lib.hid hx1
         have IE:=Lib.hid Ei
         have Wm:=Lib.hid hn1
         have HM:Hid (bB T ls ls'=(0,setName (aF T d1 n1) d nm id)):=by
          have h0:iM T ls ls'=0:=by rw[rJ.out];simp only[if_neg hdp]
          have h1:(aj nm (aX T d)).isSome=false:=by rw[dK HX.out,HJ.out];rfl
          unfold bB qg
          rw[←Wj.out,←HQ.out,ep,h0]
          simp only[h1,and_self,if_true]
          first|exact rfl|exact trivial
         have hc3:∃x3,aj d (aF T d1 n1)=some x3∧x3.kind=2∧aj nm x3.names=none:=by
          unfold aF
          rw[bq]
          by_cases hd:d=d1
          ·subst hd
           have h2:=J8.out
           rw[HX.out]at h2;cases h2
           rw[if_pos rfl,HX.out]
           refine⟨_,rfl,BM.out,?_⟩
           show aj nm (bR n1 x.names)=none
           rw[fO]
           split
           ·rfl
           ·exact HJ.out
          ·rw[if_neg hd];exact⟨x,HX.out,BM.out,HJ.out⟩
         obtain⟨x3,hx3,N9,-⟩:=hc3
         have Uj:=Lib.hid hx3
         have N_:=Lib.hid N9
         have vH:(cO x3).length<maxLen:=by
          have h1:=(HT.out.toyQ.cut (n:=n1) J8.out IE.out)
          have h2:x3.names.length≤x.names.length:=by
           have h3:=Uj.out
           unfold aF at h3
           rw[bq,HX.out]at h3
           split at h3
           ·simp only[Option.map_some,Option.some.injEq]at h3
            rw[←h3];exact List.length_filter_le _ _
           ·simp only[Option.some.injEq]at h3
            rw[h3];exact Nat.le_refl _
          have h4:=HT.out.few HX.out
          unfold cO maxLen;rw[List.length_map];omega
         have TR:=Lib.hid vH
         clear hdp hpn ep hx1 Ei hn1 FK hx3 N9 vH
         go_wp2_with (first|(at_lookup;refine aJ dN rfl _ _ 112 3 rfl Tryz.underlying112 (Tryz.fq _) rfl mK.out nm rfl kN ?_;rw[tF.out])|(at_lookup;refine aW bC rfl _ _ 101 99 rfl Tryz.underlying101 (Tryz.bA _) rfl qm.out id rfl hok ?_;rw[HG.out]))
         (with_reducible refine(QD.out w2 HB2.out).mono ?_)
         rintro e w3 ⟨rfl,hb3⟩
         have HB3:=Lib.hid (HB2.out.trans (hb3.mono HB2.out.size))
         clear hb3
         go_wp2_with fail
         (with_reducible refine(P7.out w3 HB3.out).mono ?_)
         rintro e w4 ⟨rfl,hb4⟩
         have eO:=Lib.hid (HB3.out.trans (hb4.mono HB3.out.size))
         clear hb4
         go_wp2_with fail
         (with_reducible refine(Zp.out w4 eO.out).mono ?_)
         rintro e w5 ⟨rfl,hb5⟩
         have iW:=Lib.hid (eO.out.trans (hb5.mono eO.out.size))
         clear hb5
         have ED:=HIT.out w5 iW.out
         obtain⟨d8,vS⟩:=kC ED J8.out IE.out
         have TW:=Lib.hid ED
         have Uk:=Lib.hid vS
         clear ED vS
         have D_:Hid (∀w6,MapAt dN w6 (nb d1) (bR n1 (cO x1))→w5.mapTurned w6 (nb d1)→(aO g D w6 p mb ib nb (aF T d1 n1)∧Keeps (fun b=>g b≠ .none) w5 w6)∧w6.cell? ⟨ib d,7,none⟩=some (.map (some (nb d)))∧MapAt dN w6 (nb d) (cO x3)):=fun w6 hM Qs=>by
          have h3:=D9 TW.out J8.out IE.out hM Qs
          exact⟨h3,kC h3.1 Uj.out N_.out⟩
         go_wp2_with (first|(at_delete;refine jS dN rfl _ _ 112 3 rfl Tryz.underlying112 rfl Uk.out n1 rfl N8 ?_;intro w6 tV uE;obtain⟨Xc,d9,Oa⟩:=D_.out w6 tV uE;have Zq:=Lib.hid Xc;have Ul:=Lib.hid Oa;clear Xc tV uE Oa)|(at_mapUpdate;refine iI dN rfl _ _ _ 112 3 rfl Tryz.underlying112 rfl Ul.out TR.out nm (.int .i64 id) rfl rfl kN ?_;intro w7 Xd Xe;have P8:=Lib.hid Xd;have QF:=Lib.hid Xe;clear Xd Xe))
         go_ret
         rw[HM.out]
         exact FJ HH.out iW.out Zq.out Uj.out N_.out P8.out QF.out
      ·have hkk:(y.kind==2)=false:=by simpa using hk2
       clear hwk hk2
       cases hj:aj nm x.names with
       |some j=>
        have tF:Hid (aj nm (cO x)=some (.int .i64 j)):=by rw[eB,hj];rfl
        have IC:Hid ((aj nm x.names).isSome=true):=by rw[hj];exact rfl
        rw[hj]at rJ
        clear hj
        by_cases hji:j=id
        ·rw[hji]at tF rJ
         clear hji
         have HM:Hid (bB T ls ls'=(0,T)):=by
          unfold bB
          rw[←Wj.out,dK HX.out,IC.out,rJ.out]
          simp only[if_pos,if_neg,and_false,Bool.true_eq_false,if_false]
          first|exact rfl|exact trivial
         go_wp2_with (first|(at_lookup;refine aJ dN rfl _ _ 112 3 rfl Tryz.underlying112 (Tryz.fq _) rfl mK.out nm rfl kN ?_;rw[tF.out])|(at_lookup;refine aW bC rfl _ _ 101 99 rfl Tryz.underlying101 (Tryz.bA _) rfl qm.out id rfl hok ?_;rw[HG.out]))
         go_ret
         rw[HM.out]
         exact Turn.same HH.out HB2.out rfl
        ·have hne:(j==id)=false:=by simpa using hji
         have HM:Hid (bB T ls ls'=(21,T)):=QE.out 21 (by rw[rJ.out];simp only[if_neg hji]) (by decide)
         clear hji
         go_wp2_with (first|(at_lookup;refine aJ dN rfl _ _ 112 3 rfl Tryz.underlying112 (Tryz.fq _) rfl mK.out nm rfl kN ?_;rw[tF.out])|(at_lookup;refine aW bC rfl _ _ 101 99 rfl Tryz.underlying101 (Tryz.bA _) rfl qm.out id rfl hok ?_;rw[HG.out]))
         go_ret
         rw[HM.out]
         exact Turn.same HH.out HB2.out rfl
       |none=>
        have tF:Hid (aj nm (cO x)=none):=by rw[eB,hj];rfl
        have HJ:=Lib.hid hj
        rw[hj]at rJ
        clear hj
        have N7:=nO YN.out.2
        have hdd:=NZ.out id
        have P7:=Lib.hid (HDE.out id (by rw[HY.out];rfl))
        unfold uM at P7
        generalize iB T 8 id=dd at rJ P7 hdd
        rw[hl']at rJ N7
        have e1:IntKind.i64.wrap ((n':Int)+(dd:Int))=(n':Int)+(dd:Int):=IntWalk.i64_in _ (by omega)
        by_cases hdp:8<n'+dd
        ·have HM:Hid (bB T ls ls'=(3,T)):=QE.out 3 (by rw[rJ.out];simp only[if_pos hdp]) (by decide)
         have hd1:decide ((8:Int)<(n':Int)+(dd:Int))=true:=by simp only[decide_eq_true_eq];omega
         clear hdp
         go_wp2_with (first|(at_lookup;refine aJ dN rfl _ _ 112 3 rfl Tryz.underlying112 (Tryz.fq _) rfl mK.out nm rfl kN ?_;rw[tF.out])|(at_lookup;refine aW bC rfl _ _ 101 99 rfl Tryz.underlying101 (Tryz.bA _) rfl qm.out id rfl hok ?_;rw[HG.out]))
         (with_reducible refine(P7.out w2 HB2.out).mono ?_)
         rintro e w4 ⟨rfl,hb4⟩
         have eO:=Lib.hid (HB2.out.trans (hb4.mono HB2.out.size))
         clear hb4
         go_wp2_with fail
         go_ret
         rw[HM.out]
         exact Turn.same HH.out eO.out rfl
        ·have hd1:decide ((8:Int)<(n':Int)+(dd:Int))=false:=by simp only[decide_eq_false_iff_not];omega
         have hpn:ls≠[]:=fun e=>by
          have h1:id=0:=congrArg Prod.fst (HQ.out.trans (by rw[e]<;>exact(rfl:aH T 0 []=(0,0))))
          exact Fh.out h1
         obtain⟨d1,x1,n1,ep,-,hx1,Ei,hn1,FK,-⟩:=dB HQ.out.symm hpn
         have N8:=Nj (iR YN.out.1 _ FK)
         have Zp:=Lib.hid (HPP.out d1 n1 ep)
         have J8:=Lib.hid hx1
         have IE:=Lib.hid Ei
         have Wm:=Lib.hid hn1
         have HM:Hid (bB T ls ls'=(0,setName (aF T d1 n1) d nm id)):=by
          have h0:iM T ls ls'=0:=by rw[rJ.out];simp only[if_neg hdp]
          have h1:(aj nm (aX T d)).isSome=false:=by rw[dK HX.out,HJ.out];rfl
          unfold bB qg
          rw[←Wj.out,←HQ.out,ep,h0]
          simp only[h1,and_self,if_true]
          first|exact rfl|exact trivial
         have hc3:∃x3,aj d (aF T d1 n1)=some x3∧x3.kind=2∧aj nm x3.names=none:=by
          unfold aF
          rw[bq]
          by_cases hd:d=d1
          ·subst hd
           have h2:=J8.out
           rw[HX.out]at h2;cases h2
           rw[if_pos rfl,HX.out]
           refine⟨_,rfl,BM.out,?_⟩
           show aj nm (bR n1 x.names)=none
           rw[fO]
           split
           ·rfl
           ·exact HJ.out
          ·rw[if_neg hd];exact⟨x,HX.out,BM.out,HJ.out⟩
         obtain⟨x3,hx3,N9,-⟩:=hc3
         have Uj:=Lib.hid hx3
         have N_:=Lib.hid N9
         have vH:(cO x3).length<maxLen:=by
          have h1:=(HT.out.toyQ.cut (n:=n1) J8.out IE.out)
          have h2:x3.names.length≤x.names.length:=by
           have h3:=Uj.out
           unfold aF at h3
           rw[bq,HX.out]at h3
           split at h3
           ·simp only[Option.map_some,Option.some.injEq]at h3
            rw[←h3];exact List.length_filter_le _ _
           ·simp only[Option.some.injEq]at h3
            rw[h3];exact Nat.le_refl _
          have h4:=HT.out.few HX.out
          unfold cO maxLen;rw[List.length_map];omega
         have TR:=Lib.hid vH
         clear hdp hpn ep hx1 Ei hn1 FK hx3 N9 vH
         go_wp2_with (first|(at_lookup;refine aJ dN rfl _ _ 112 3 rfl Tryz.underlying112 (Tryz.fq _) rfl mK.out nm rfl kN ?_;rw[tF.out])|(at_lookup;refine aW bC rfl _ _ 101 99 rfl Tryz.underlying101 (Tryz.bA _) rfl qm.out id rfl hok ?_;rw[HG.out]))
         (with_reducible refine(P7.out w2 HB2.out).mono ?_)
         rintro e w4 ⟨rfl,hb4⟩
         have eO:=Lib.hid (HB2.out.trans (hb4.mono HB2.out.size))
         clear hb4
         go_wp2_with fail
         (with_reducible refine(Zp.out w4 eO.out).mono ?_)
         rintro e w5 ⟨rfl,hb5⟩
         have iW:=Lib.hid (eO.out.trans (hb5.mono eO.out.size))
         clear hb5
         have ED:=HIT.out w5 iW.out
         obtain⟨d8,vS⟩:=kC ED J8.out IE.out
         have TW:=Lib.hid ED
         have Uk:=Lib.hid vS
         clear ED vS
         have D_:Hid (∀w6,MapAt dN w6 (nb d1) (bR n1 (cO x1))→w5.mapTurned w6 (nb d1)→(aO g D w6 p mb ib nb (aF T d1 n1)∧Keeps (fun b=>g b≠ .none) w5 w6)∧w6.cell? ⟨ib d,7,none⟩=some (.map (some (nb d)))∧MapAt dN w6 (nb d) (cO x3)):=fun w6 hM Qs=>by
          have h3:=D9 TW.out J8.out IE.out hM Qs
          exact⟨h3,kC h3.1 Uj.out N_.out⟩
         go_wp2_with (first|(at_delete;refine jS dN rfl _ _ 112 3 rfl Tryz.underlying112 rfl Uk.out n1 rfl N8 ?_;intro w6 tV uE;obtain⟨Xc,d9,Oa⟩:=D_.out w6 tV uE;have Zq:=Lib.hid Xc;have Ul:=Lib.hid Oa;clear Xc tV uE Oa)|(at_mapUpdate;refine iI dN rfl _ _ _ 112 3 rfl Tryz.underlying112 rfl Ul.out TR.out nm (.int .i64 id) rfl rfl kN ?_;intro w7 Xd Xe;have P8:=Lib.hid Xd;have QF:=Lib.hid Xe;clear Xd Xe))
         go_ret
         rw[HM.out]
         exact FJ HH.out iW.out Zq.out Uj.out N_.out P8.out QF.out
    ·have HM:Hid (bB T ls ls'=(z,T)):=QE.out z (by rw[Bt.out,if_neg (by simp),if_neg (by simp),if_neg Fh.out,if_pos hz]) hz
     have hne:(z==0)=false:=by simpa using hz
     have hne2:(z !=0)=true:=by simpa using hz
     rw[if_neg hz]
     clear hz
     go_wp2_with fail
     go_ret
     rw[HM.out]
     exact Turn.same HH.out HB2.out rfl
  ·have HM:Hid (bB T ls ls'=(e0,T)):=QE.out e0 (by rw[Bt.out,if_neg (by simp),if_pos he]) he
   have hne:(e0==0)=false:=by simpa using he
   have hne2:(e0 !=0)=true:=by simpa using he
   clear he
   go_wp2_with fail
   go_ret
   rw[HM.out]
   exact Turn.same HH.out HB1.out rfl
 ·have HM:Hid (bB T ls ls'=(f,T)):=QE.out f (by rw[Bt.out,if_pos hf]) hf
  have hne:(f==0)=false:=by simpa using hf
  have hne2:(f !=0)=true:=by simpa using hf
  clear hf
  go_wp2_with fail
  go_ret
  rw[HM.out]
  exact Turn.same HH.out HB1.out rfl
end
structure su (T:aG):Prop where
 sorted:aS g_ T
 names:∀q∈T,aS bytesBefore q.2.names
 len:T.length≤64
 few:(aT T).length≤5000
theorem su.of {T:aG} (h:dX T):su T:=⟨h.sorted,fun q hq=>(h.each _ _ (bf dU h.sorted hq)).sorted,h.len,by have:=gQ h;omega⟩
theorem vT {T:aG} {d:Int} {f:bW→bW} {q:Int×bW} (h:q∈bH d f T):q∈T∨∃p∈T,p.1=d∧q=(p.1,f p.2):=by
 unfold bH at h
 obtain⟨p,hp,e⟩:=List.mem_map.1 h
 by_cases hd:p.1=d
 ·rw[if_pos hd]at e
  exact .inr ⟨p,hp,hd,e.symm⟩
 ·rw[if_neg hd]at e
  exact .inl (e▸hp)
theorem su.cut {T:aG} (h:su T) (d:Int) (n:Nm):su (aF T d n):=by
 refine⟨kr _ _ h.sorted,fun q hq=> ?_,by unfold aF;rw[h_];exact h.len,?_⟩
 ·rcases vT hq with h1|⟨p,hp,_,rfl⟩
  ·exact h.names q h1
  ·exact(h.names p hp).bR _
 ·rw[←zS]
  exact Nat.le_trans (List.length_filter_le _ _) h.few
theorem su.bH {T:aG} (h:su T) (d:Int) {f:bW→bW} (hf:∀x,(f x).names=x.names):su (Go.Proofs.YtmabllemjkcobaaGreat.bH d f T):=by
 refine⟨kr _ _ h.sorted,fun q hq=> ?_,by rw[h_];exact h.len,by rw[lD hf];exact h.few⟩
 rcases vT hq with h1|⟨p,hp,_,rfl⟩
 ·exact h.names q h1
 ·show aS bytesBefore (f p.2).names
  rw[hf];exact h.names p hp
theorem FL (E:List iT) (d:Int) (nm:Nm) (id:Int):(pI E d nm id).length=E.length+1:=by
 unfold pI
 have:=congrArg List.length (List.takeWhile_append_dropWhile (p:=kE d nm) (l:=E))
 rw[List.length_append]at this
 rw[List.length_append,List.length_cons]
 omega
theorem su.get {T:aG} (h:su T) {d:Int} {x:bW} (hx:aj d T=some x):aS bytesBefore x.names:=h.names (d,x) (bP hx)
theorem vU {T:aG} (h:su T) {id j:Int} {x:bW} {nm:Nm} (hx:aj id T=some x) (hn:aj nm x.names=some j):∃k:Nat,pG (gP id nm) (aT T)=k∧(aT T)[k]? =some (id,nm,j):=by
 have hmem:((id,nm,j):iT)∈aT T:=(jU h.sorted).2 ⟨x,hx,bP hn⟩
 cases hf:(aT T).findIdx? (gP id nm)with
 |none=>
  rw[List.findIdx?_eq_none_iff]at hf
  have:=hf _ hmem
  simp[gP]at this
 |some k=>
  refine⟨k,by simp[pG,hf],?_⟩
  rw[List.findIdx?_eq_some_iff_getElem]at hf
  obtain⟨hk,hp,_⟩:=hf
  have h1:(aT T)[k]? =some (aT T)[k]:=List.getElem?_eq_getElem hk
  obtain⟨e,he⟩:∃e,e=(aT T)[k]:=⟨_,rfl⟩
  have hm:=List.getElem_mem hk
  rw[←he]at h1 hp hm
  simp only[gP,decide_eq_true_eq]at hp
  obtain⟨y,hy,hm2⟩:=(jU h.sorted).1 hm
  rw[hp.1,hx]at hy
  cases hy
  have h3:=bf l8 (h.get hx) hm2
  rw[hp.2,hn]at h3
  rw[h1]
  congr 1
  exact Prod.ext hp.1 (Prod.ext hp.2 (Option.some.inj h3).symm)
theorem su.put {T:aG} (h:su T) {d:Int} {x:bW} {n:Nm} (hx:aj d T=some x) (hn:aj n x.names=none) (hf:(aT T).length≤4096) (id:Int):su (setName T d n id):=by
 refine⟨kr _ _ h.sorted,fun q hq=> ?_,by unfold setName;rw[h_];exact h.len,?_⟩
 ·rcases vT hq with h1|⟨p,hp,_,rfl⟩
  ·exact h.names q h1
  ·exact(h.names p hp).dF l8 _ _
 ·rw[←zQ h.sorted hx (h.get hx) hn,FL]
  omega
theorem dY.val {F:Nat→Prop} {w w':World} {r:Nat} {T:aG} {D:List (List UInt8)} {E:List iT} {v:Value} {e:Ending} (h:dY F w r T D E v e w') (v2:Value):dY F w r T D E v2 (.returned v2) w':=⟨rfl,h.2.1,h.2.2⟩
section
variable {F:Nat→Prop} {r:Nat} {T:aG}
theorem zi (d:Int) (nm:Nm) (j:Int) (x:bW) (w:World) (h:iq F w r T) (hL:su T) (hx:aj d T=some x) (hn:aj nm x.names=some j):
  ∃k:Nat,pG (gP d nm) (aT T)=k∧Calls Tryz.prog 74 #[ptr r, .int .i64 k] w (bX F w r (aF T d nm) (.tuple #[])):=by
 obtain⟨k,hk,he⟩:=vU hL hx hn
 refine⟨k,hk,(J7 k w h (List.getElem?_eq_some_iff.1 he).1 (by have:=hL.few;omega)).mono fun e w' ht=> ?_⟩
 have h1:(aT T).take k++(aT T).drop (k+1)=aT (aF T d nm):=by
  rw[uN (p:=gP d nm) he (by simp[gP]) (zR hL.sorted hL.names d nm),zS]
 rw[h1]at ht
 refine⟨ht.1,ht.2.1,?_⟩
 have:=ht.2.2.names (T':=aF T d nm) (h_ _ _ _) (uO (id:=d) (f:=fun x=>{x with names:=bR nm x.names}) (fun _=>rfl) T)
 unfold aF at this⊢
 rw[nQ (fun _=>by exact rfl)]
 exact this
theorem vV (d:Int) (nm:Nm) (id:Int) (x:bW) (w:World) (h:iq F w r T) (hL:su T) (hx:aj d T=some x) (hn:aj nm x.names=none):
  Calls Tryz.prog 70 #[ptr r, .int .i64 d, .string (strOf nm), .int .i64 id] w (bX F w r (setName T d nm id) (.tuple #[])):=by
 refine(QC d nm id w h (by have:=hL.few;omega)).mono fun e w' ht=> ?_
 rw[zQ hL.sorted hx (hL.get hx) hn]at ht
 refine⟨ht.1,ht.2.1,?_⟩
 have:=ht.2.2.names (T':=setName T d nm id) (h_ _ _ _) (uO (id:=d) (f:=fun x=>{x with names:=dF bytesBefore nm id x.names}) (fun _=>rfl) T)
 unfold setName at this⊢
 rw[nQ (fun _=>by exact rfl)]
 exact this
theorem tX (id IB:Int) (x:bW) (w:World) (h:iq F w r T) (hL:su T) (hx:aj id T=some x) (hb0: -1≤IB∧IB≤1) (hl0:0≤x.links∧x.links≤64):
  Calls Tryz.prog 78 #[ptr r, .int .i64 id, .int .i64 IB] w (bX F w r (bH id (fun x=>{x with links:=x.links+IB}) T) (.tuple #[])):=by
 obtain⟨k,hk,hq⟩:=jF hL.sorted hx
 refine(Iz id IB k (id,x) w h hL.len hk hq hb0 hl0).mono fun e w' ht=> ?_
 have h1:=ny (f:=fun x:bW=>{x with links:=x.links+IB}) hL.sorted hq
 simp only at h1 ht
 rw[h1]at ht
 refine⟨ht.1,ht.2.1,?_⟩
 rw[nQ (fun _=>by exact rfl),lD (fun _=>by exact rfl)]
 exact ht.2.2
theorem sw (id:Int) (x:bW) (w:World) (h:iq F w r T) (hs:aS g_ T) (hl:T.length≤64) (hx:aj id T=some x) (hn:x.names=[]):
  Calls Tryz.prog 75 #[ptr r, .int .i64 id] w (bX F w r (bR id T) (.tuple #[])):=by
 obtain⟨k,hk,hq⟩:=jF hs hx
 refine(K7 id k w h hl (by rw[List.length_map]) hk (List.getElem?_eq_some_iff.1 hq).1).mono fun e w' ht=> ?_
 have h1:=Ue hs hq
 simp only at h1
 rw[←List.map_take,←List.map_drop,←List.map_append,h1]at ht
 refine⟨ht.1,ht.2.1,?_⟩
 rw[Fy (fun q hq2 hid=>by
  have:=bf dU hs hq2
  rw[hid,hx]at this
  cases this
  exact hn)]
 exact ht.2.2
end
end Go.Proofs.YtmabllemjkcobaaGreat
