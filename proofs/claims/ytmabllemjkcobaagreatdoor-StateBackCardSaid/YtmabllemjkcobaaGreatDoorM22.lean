/- tree: Rename. -/
import Derived.Test.YtmabllemjkcobaaGreatDoorM17
import Derived.Test.YtmabllemjkcobaaGreatDoorM21
namespace Go.Proofs.YtmabllemjkcobaaGreatDoor
open Go.ChangeShapes Go.WideShapes Go.ChangeAt Go.RowKit
set_option linter.unusedVariables false
set_option linter.unusedSimpArgs false
theorem Dn (p q:List Nm):pI (p.map strOf) (q.map strOf)=jo p q:=by
 unfold pI jo
 rw[List.length_map,←List.map_take]
 have:((p.take q.length).map strOf=q.map strOf)↔p.take q.length=q:=by
  constructor
  ·intro h
   have:=congrArg I5 h
   rwa [zQ,zQ]at this
  ·intro h;rw[h]
 simp only[this]
section
variable {g:Nat→Own} {D:Nat→Prop} {p mb:Nat} {ib nb:Int→Nat} {T:aK}
theorem Dp {w w2 w3 w4:World} {d1 d2 id:Int} {n1 n2:Nm} {y:eB} (h:aC g D w p mb ib nb T) (hb:Below w.heap.size w w2) (h3:aC g D w3 p mb ib nb (aL T d1 n1)∧Keeps (fun b=>g b≠ .none) w2 w3)
  (hy:ah d2 (aL T d1 n1)=some y) (hk:y.kind=2) (hM:MapAt bV w4 (nb d2) (cO bV.lt n2 (.int .i64 id) (bC y))) (hT:w3.mapTurned w4 (nb d2)):Turn g D w p mb (setName (aL T d1 n1) d2 n2 id) (.int .i64 0) (.returned (.int .i64 0)) w4:=by
 have hg:=h3.1.kD d2 y hy hk
 refine Turn.of rfl (h3.1.set hy hk hM hT) ((gX hb).trans (h3.2.trans ((eu hT).mono fun b _ hb=> ?_) (fun _ _ h=>h)) (fun _ _ h=>h))
 rw[show b=nb d2 from hb,hg];simp
set_option maxRecDepth 100000 in
set_option maxHeartbeats 8000000 in
theorem Jt {S S':Nat→Prop} (a:Option Addr) (n c:Nat) (ls:List Nm) (a':Option Addr) (n' c':Nat) (ls':List Nm) (w:World) (h:aC g D w p mb ib nb T) (hO:fC T) (hS:aO S w a n (ls.map strOf)) (hS':aO S' w a' n' (ls'.map strOf)) (hc:n≤c) (nD:n≤1000000) (hc':n'≤c') (Tw:n'≤1000000):
  Calls Tryz.prog 46 #[ptr p, .slice a n c, .slice a' n' c'] w (Turn g D w p mb (cu T ls ls').2 (.int .i64 (cu T ls ls').1)):=by
 have HH:=Lib.hid h
 have hT:=hO.1
 have HT:=Lib.hid hT
 have HF:=Lib.hid (CO a n c ls a' n' c' ls' w hS hS')
 have mO:=Lib.hid (fun w1 (hb:Below w.heap.size w w1)=>oD a n c ls w1 (h.below hb (Nat.le_refl _)) hT (hS.below hb (Nat.le_refl _)))
 have sK:=Lib.hid (fun w1 (hb:Below w.heap.size w w1)=>rA a' n' c' ls' w1 (h.below hb (Nat.le_refl _)) hT (hS'.below hb (Nat.le_refl _)) hc' Tw)
 have Qf:=Lib.hid (fun w1 (hb:Below w.heap.size w w1)=>Dm a' a n' c' n c (ls'.map strOf) (ls.map strOf) w1 (hS'.below hb (Nat.le_refl _)) (hS.below hb (Nat.le_refl _)) hc')
 rw[Dn]at Qf
 have hl':ls'.length=n':=by have:=hS'.length;simpa using this
 have HPP:=Lib.hid (fun(d:Int) (nm:Nm) (hp:aF T ls=(d,nm,0)) w1 (hb:Below w.heap.size w w1)=>xM a n c ls w1 (h.below hb (Nat.le_refl _)) hT (hS.below hb (Nat.le_refl _)) hc nD hp)
 have HDE:=Lib.hid (fun id (hi:(ah id T).isSome=true) w1 (hb:Below w.heap.size w w1)=>Df hT 8 id w1 (h.below hb (Nat.le_refl _)) hi (hO.LX id) (by omega))
 have HIT:=Lib.hid (fun w1 (hb:Below w.heap.size w w1)=>h.below hb (Nat.le_refl _))
 have Me:=Lib.hid (fun id=>(hO.LX id).le)
 clear h hT hS hS' hO
 obtain⟨f,hf0⟩:∃f,f=jX ls ls':=⟨_,rfl⟩
 rw[←hf0]at HF
 obtain⟨⟨id,e0⟩,hq⟩:∃q,q=aD T 0 ls:=⟨_,rfl⟩
 rw[←hq]at mO
 obtain⟨⟨d,nm,z⟩,hq2⟩:∃q,q=aF T ls':=⟨_,rfl⟩
 unfold mP at sK
 rw[←hq2]at sK
 have I8:Hid (jR T ls ls'=if f≠0 then f else if e0≠0 then e0 else if id=0 then 1 else if z≠0 then z else if bB T id=2∧jo ls' ls=true then 1 else
   match ah nm (aM T d)with
   |some k=>if k=id then 0 else 21
   |none=>if 8<ls'.length+j3 T 8 id then 3 else 0):=by
  unfold jR
  rw[←hf0,←hq,←hq2]<;>exact rfl
 have Ju:Hid (∀k,jR T ls ls'=k→k≠0→cu T ls ls'=(k,T)):=fun k hk h0=>by
  unfold cu
  rw[hk,if_neg (fun h=>h0 h.1)]
 have Tx:=Lib.hid hf0
 have HQ:=Lib.hid hq
 have Qd:=Lib.hid hq2
 clear hf0 hq hq2
 go_enter Tryz.func46,Tryz.ntmps46
 go_wp2_with fail
 (with_reducible refine HF.out.mono ?_)
 rintro e w1 ⟨rfl,hb1⟩
 have HB1:=Lib.hid hb1
 clear hb1
 by_cases hf:f=0
 ·subst hf
  go_wp2_with fail
  (with_reducible refine(mO.out w1 HB1.out).mono ?_)
  rintro e w2 ⟨rfl,rfl⟩
  by_cases he:e0=0
  ·subst he
   by_cases Mf:id=0
   ·have HM:Hid (cu T ls ls'=(1,T)):=Ju.out 1 (by rw[I8.out,if_neg (by simp),if_neg (by simp),if_pos Mf]) (by decide)
    subst Mf
    go_wp2_with fail
    go_ret
    rw[HM.out]
    exact Turn.same HH.out HB1.out rfl
   ·have Zn:(id==0)=false:=by simpa using Mf
    have Dc:=Lib.hid Mf
    clear Mf
    go_wp2_with fail
    (with_reducible refine(sK.out w1 HB1.out).mono ?_)
    rintro e w2 ⟨rfl,hb2⟩
    have HB2:=Lib.hid (HB1.out.trans (hb2.mono HB1.out.size))
    clear hb2
    by_cases hz:z=0
    ·subst hz
     (first|rw[if_pos rfl]|rw[if_pos trivial])
     have hfz:=pG Tx.out.symm
     obtain⟨x,hx,hxk,hnm⟩:=iY HT.out (p:=ls') (by rw[←Qd.out])
     rw[←Qd.out]at hx hnm
     have hgn:=ig hfz.2 _ hnm
     have kE:=LP hgn
     obtain⟨y,hy⟩:=Option.isSome_iff_exists.1 (mR HQ.out.symm HT.out)
     have lS:=HT.out.ids id y hy
     have hok:aP.ok id:=gB lS.1 (by omega)
     have HG:Hid (ah id (T.map fun q=>(q.1,ptr (ib q.1)))=some (ptr (ib id))):=by rw[bZ,hy];rfl
     have HX:=Lib.hid hx
     have vN:=Lib.hid hxk
     have HY:=Lib.hid hy
     have CJ:=Lib.hid hgn
     have YE:=Lib.hid hfz
     have hA2:=HIT.out w2 HB2.out
     obtain⟨d7,eY⟩:=jZ hA2 hx hxk
     have mF:=Lib.hid eY
     have oN:=Lib.hid hA2.map
     have q0:=hA2.cell.1
     obtain⟨_,c1,_⟩:=(hA2.item id y hy).cell
     clear hx hxk hnm hgn hy hfz hA2 eY
     have VW:Hid (jR T ls ls'=if bB T id=2∧jo ls' ls=true then 1 else match ah nm x.names with|some k=>if k=id then 0 else 21|none=>if 8<ls'.length+j3 T 8 id then 3 else 0):=by
      rw[I8.out,if_neg (by simp),if_neg (by simp),if_neg Dc.out,if_neg (by simp),fq HX.out];exact rfl
     by_cases hwk:bB T id=2∧jo ls' ls=true
     ·have HM:Hid (cu T ls ls'=(1,T)):=Ju.out 1 (by rw[VW.out,if_pos hwk]) (by decide)
      have hk2:y.kind=2:=by rw[←bR HY.out];exact hwk.1
      have hW:=hwk.2
      rw[hW]at Qf
      rw[hk2]at c1
      clear hwk hk2 hW
      cases hj:ah nm x.names with
      |none=>
       have rC:Hid (ah nm (bC x)=none):=by rw[dK,hj];rfl
       clear hj
       go_wp2_with (first|(at_lookup;refine aB bV rfl _ _ 92 3 rfl Tryz.underlying92 (Tryz.dU _) rfl mF.out nm rfl kE ?_;rw[rC.out])|(at_lookup;refine aJ aP rfl _ _ 95 88 rfl Tryz.underlying95 (Tryz.aQ _) rfl oN.out id rfl hok ?_;rw[HG.out]))
       (with_reducible refine(Qf.out w2 HB2.out).mono ?_)
       rintro e w3 ⟨rfl,hb3⟩
       have HB3:=Lib.hid (HB2.out.trans (hb3.mono HB2.out.size))
       clear hb3
       go_wp2_with fail
       go_ret
       rw[HM.out]
       exact Turn.same HH.out HB3.out rfl
      |some j=>
       have rC:Hid (ah nm (bC x)=some (.int .i64 j)):=by rw[dK,hj];rfl
       clear hj
       go_wp2_with (first|(at_lookup;refine aB bV rfl _ _ 92 3 rfl Tryz.underlying92 (Tryz.dU _) rfl mF.out nm rfl kE ?_;rw[rC.out])|(at_lookup;refine aJ aP rfl _ _ 95 88 rfl Tryz.underlying95 (Tryz.aQ _) rfl oN.out id rfl hok ?_;rw[HG.out]))
       (with_reducible refine(Qf.out w2 HB2.out).mono ?_)
       rintro e w3 ⟨rfl,hb3⟩
       have HB3:=Lib.hid (HB2.out.trans (hb3.mono HB2.out.size))
       clear hb3
       go_wp2_with fail
       go_ret
       rw[HM.out]
       exact Turn.same HH.out HB3.out rfl
     ·have qy:Hid (jR T ls ls'=match ah nm x.names with|some k=>if k=id then 0 else 21|none=>if 8<ls'.length+j3 T 8 id then 3 else 0):=by
       rw[VW.out,if_neg hwk];exact rfl
      by_cases hk2:y.kind=2
      ·have hW:jo ls' ls=false:=by
        cases hw:jo ls' ls with
        |false=>rfl
        |true=>exact absurd ⟨(bR HY.out).trans hk2,hw⟩ hwk
       rw[hW]at Qf
       rw[hk2]at c1
       clear hwk hk2 hW
       cases hj:ah nm x.names with
       |some j=>
        have rC:Hid (ah nm (bC x)=some (.int .i64 j)):=by rw[dK,hj];rfl
        have Tz:Hid ((ah nm x.names).isSome=true):=by rw[hj];exact rfl
        rw[hj]at qy
        clear hj
        by_cases hji:j=id
        ·rw[hji]at rC qy
         clear hji
         have HM:Hid (cu T ls ls'=(0,T)):=by
          unfold cu
          rw[←Qd.out,fq HX.out,Tz.out,qy.out]
          simp only[if_pos,if_neg,and_false,Bool.true_eq_false,if_false]
          first|exact rfl|exact trivial
         go_wp2_with (first|(at_lookup;refine aB bV rfl _ _ 92 3 rfl Tryz.underlying92 (Tryz.dU _) rfl mF.out nm rfl kE ?_;rw[rC.out])|(at_lookup;refine aJ aP rfl _ _ 95 88 rfl Tryz.underlying95 (Tryz.aQ _) rfl oN.out id rfl hok ?_;rw[HG.out]))
         (with_reducible refine(Qf.out w2 HB2.out).mono ?_)
         rintro e w3 ⟨rfl,hb3⟩
         have HB3:=Lib.hid (HB2.out.trans (hb3.mono HB2.out.size))
         clear hb3
         go_wp2_with fail
         go_ret
         rw[HM.out]
         exact Turn.same HH.out HB3.out rfl
        ·have hne:(j==id)=false:=by simpa using hji
         have HM:Hid (cu T ls ls'=(21,T)):=Ju.out 21 (by rw[qy.out];simp only[if_neg hji]) (by decide)
         clear hji
         go_wp2_with (first|(at_lookup;refine aB bV rfl _ _ 92 3 rfl Tryz.underlying92 (Tryz.dU _) rfl mF.out nm rfl kE ?_;rw[rC.out])|(at_lookup;refine aJ aP rfl _ _ 95 88 rfl Tryz.underlying95 (Tryz.aQ _) rfl oN.out id rfl hok ?_;rw[HG.out]))
         (with_reducible refine(Qf.out w2 HB2.out).mono ?_)
         rintro e w3 ⟨rfl,hb3⟩
         have HB3:=Lib.hid (HB2.out.trans (hb3.mono HB2.out.size))
         clear hb3
         go_wp2_with fail
         go_ret
         rw[HM.out]
         exact Turn.same HH.out HB3.out rfl
       |none=>
        have rC:Hid (ah nm (bC x)=none):=by rw[dK,hj];rfl
        have HJ:=Lib.hid hj
        rw[hj]at qy
        clear hj
        have Mg:=oF YE.out.2
        have hdd:=Me.out id
        have Qg:=Lib.hid (HDE.out id (by rw[HY.out];rfl))
        unfold rZ at Qg
        generalize j3 T 8 id=dd at qy Qg hdd
        rw[hl']at qy Mg
        have e1:IntKind.i64.wrap ((n':Int)+(dd:Int))=(n':Int)+(dd:Int):=IntWalk.i64_in _ (by omega)
        by_cases hdp:8<n'+dd
        ·have HM:Hid (cu T ls ls'=(3,T)):=Ju.out 3 (by rw[qy.out];simp only[if_pos hdp]) (by decide)
         have hd1:decide ((8:Int)<(n':Int)+(dd:Int))=true:=by simp only[decide_eq_true_eq];omega
         clear hdp
         go_wp2_with (first|(at_lookup;refine aB bV rfl _ _ 92 3 rfl Tryz.underlying92 (Tryz.dU _) rfl mF.out nm rfl kE ?_;rw[rC.out])|(at_lookup;refine aJ aP rfl _ _ 95 88 rfl Tryz.underlying95 (Tryz.aQ _) rfl oN.out id rfl hok ?_;rw[HG.out]))
         (with_reducible refine(Qf.out w2 HB2.out).mono ?_)
         rintro e w3 ⟨rfl,hb3⟩
         have HB3:=Lib.hid (HB2.out.trans (hb3.mono HB2.out.size))
         clear hb3
         go_wp2_with fail
         (with_reducible refine(Qg.out w3 HB3.out).mono ?_)
         rintro e w4 ⟨rfl,hb4⟩
         have iq:=Lib.hid (HB3.out.trans (hb4.mono HB3.out.size))
         clear hb4
         go_wp2_with fail
         go_ret
         rw[HM.out]
         exact Turn.same HH.out iq.out rfl
        ·have hd1:decide ((8:Int)<(n':Int)+(dd:Int))=false:=by simp only[decide_eq_false_iff_not];omega
         have hpn:ls≠[]:=fun e=>by
          have h1:id=0:=congrArg Prod.fst (HQ.out.trans (by rw[e]<;>exact(rfl:aD T 0 []=(0,0))))
          exact Dc.out h1
         obtain⟨d1,x1,n1,ep,-,hx1,Mh,hn1,Dq,-⟩:=dL HQ.out.symm hpn
         have Mi:=LP (ig YE.out.1 _ Dq)
         have Zo:=Lib.hid (HPP.out d1 n1 ep)
         have Mj:=Lib.hid hx1
         have Fw:=Lib.hid Mh
         have vS:=Lib.hid hn1
         have HM:Hid (cu T ls ls'=(0,setName (aL T d1 n1) d nm id)):=by
          have h0:jR T ls ls'=0:=by rw[qy.out];simp only[if_neg hdp]
          have h1:(ah nm (aM T d)).isSome=false:=by rw[fq HX.out,HJ.out];rfl
          unfold cu tK
          rw[←Qd.out,←HQ.out,ep,h0]
          simp only[h1,and_self,if_true]
          first|exact rfl|exact trivial
         have hc3:∃x3,ah d (aL T d1 n1)=some x3∧x3.kind=2∧ah nm x3.names=none:=by
          unfold aL
          rw[aV]
          by_cases hd:d=d1
          ·subst hd
           have h2:=Mj.out
           rw[HX.out]at h2;cases h2
           rw[if_pos rfl,HX.out]
           refine⟨_,rfl,vN.out,?_⟩
           show ah nm (bI n1 x.names)=none
           rw[eZ]
           split
           ·rfl
           ·exact HJ.out
          ·rw[if_neg hd];exact⟨x,HX.out,vN.out,HJ.out⟩
         obtain⟨x3,hx3,Ml,-⟩:=hc3
         have TA:=Lib.hid hx3
         have Mq:=Lib.hid Ml
         have sW:(bC x3).length<maxLen:=by
          have h1:=(HT.out.tozl.cut (n:=n1) Mj.out Fw.out)
          have h2:x3.names.length≤x.names.length:=by
           have h3:=TA.out
           unfold aL at h3
           rw[aV,HX.out]at h3
           split at h3
           ·simp only[Option.map_some,Option.some.injEq]at h3
            rw[←h3];exact List.length_filter_le _ _
           ·simp only[Option.some.injEq]at h3
            rw[h3];exact Nat.le_refl _
          have h4:=HT.out.few HX.out
          unfold bC maxLen;rw[List.length_map];omega
         have Tc:=Lib.hid sW
         clear hdp hpn ep hx1 Mh hn1 Dq hx3 Ml sW
         go_wp2_with (first|(at_lookup;refine aB bV rfl _ _ 92 3 rfl Tryz.underlying92 (Tryz.dU _) rfl mF.out nm rfl kE ?_;rw[rC.out])|(at_lookup;refine aJ aP rfl _ _ 95 88 rfl Tryz.underlying95 (Tryz.aQ _) rfl oN.out id rfl hok ?_;rw[HG.out]))
         (with_reducible refine(Qf.out w2 HB2.out).mono ?_)
         rintro e w3 ⟨rfl,hb3⟩
         have HB3:=Lib.hid (HB2.out.trans (hb3.mono HB2.out.size))
         clear hb3
         go_wp2_with fail
         (with_reducible refine(Qg.out w3 HB3.out).mono ?_)
         rintro e w4 ⟨rfl,hb4⟩
         have iq:=Lib.hid (HB3.out.trans (hb4.mono HB3.out.size))
         clear hb4
         go_wp2_with fail
         (with_reducible refine(Zo.out w4 iq.out).mono ?_)
         rintro e w5 ⟨rfl,hb5⟩
         have jI:=Lib.hid (iq.out.trans (hb5.mono iq.out.size))
         clear hb5
         have B_:=HIT.out w5 jI.out
         obtain⟨d8,tO⟩:=jZ B_ Mj.out Fw.out
         have Tf:=Lib.hid B_
         have TB:=Lib.hid tO
         clear B_ tO
         have rJ:Hid (∀w6,MapAt bV w6 (nb d1) (bI n1 (bC x1))→w5.mapTurned w6 (nb d1)→(aC g D w6 p mb ib nb (aL T d1 n1)∧Keeps (fun b=>g b≠ .none) w5 w6)∧w6.cell? ⟨ib d,7,none⟩=some (.map (some (nb d)))∧MapAt bV w6 (nb d) (bC x3)):=fun w6 hM PN=>by
          have h3:=Bd Tf.out Mj.out Fw.out hM PN
          exact⟨h3,jZ h3.1 TA.out Mq.out⟩
         go_wp2_with (first|(at_delete;refine jG bV rfl _ _ 92 3 rfl Tryz.underlying92 rfl TB.out n1 rfl Mi ?_;intro w6 Js Fv;obtain⟨VX,d9,Mr⟩:=rJ.out w6 Js Fv;have Zp:=Lib.hid VX;have TD:=Lib.hid Mr;clear VX Js Fv Mr)|(at_mapUpdate;refine gT bV rfl _ _ _ 92 3 rfl Tryz.underlying92 rfl TD.out Tc.out nm (.int .i64 id) rfl rfl kE ?_;intro w7 VY VZ;have Ae:=Lib.hid VY;have RX:=Lib.hid VZ;clear VY VZ))
         go_ret
         rw[HM.out]
         exact Dp HH.out jI.out Zp.out TA.out Mq.out Ae.out RX.out
      ·have hkk:(y.kind==2)=false:=by simpa using hk2
       clear hwk hk2
       cases hj:ah nm x.names with
       |some j=>
        have rC:Hid (ah nm (bC x)=some (.int .i64 j)):=by rw[dK,hj];rfl
        have Tz:Hid ((ah nm x.names).isSome=true):=by rw[hj];exact rfl
        rw[hj]at qy
        clear hj
        by_cases hji:j=id
        ·rw[hji]at rC qy
         clear hji
         have HM:Hid (cu T ls ls'=(0,T)):=by
          unfold cu
          rw[←Qd.out,fq HX.out,Tz.out,qy.out]
          simp only[if_pos,if_neg,and_false,Bool.true_eq_false,if_false]
          first|exact rfl|exact trivial
         go_wp2_with (first|(at_lookup;refine aB bV rfl _ _ 92 3 rfl Tryz.underlying92 (Tryz.dU _) rfl mF.out nm rfl kE ?_;rw[rC.out])|(at_lookup;refine aJ aP rfl _ _ 95 88 rfl Tryz.underlying95 (Tryz.aQ _) rfl oN.out id rfl hok ?_;rw[HG.out]))
         go_ret
         rw[HM.out]
         exact Turn.same HH.out HB2.out rfl
        ·have hne:(j==id)=false:=by simpa using hji
         have HM:Hid (cu T ls ls'=(21,T)):=Ju.out 21 (by rw[qy.out];simp only[if_neg hji]) (by decide)
         clear hji
         go_wp2_with (first|(at_lookup;refine aB bV rfl _ _ 92 3 rfl Tryz.underlying92 (Tryz.dU _) rfl mF.out nm rfl kE ?_;rw[rC.out])|(at_lookup;refine aJ aP rfl _ _ 95 88 rfl Tryz.underlying95 (Tryz.aQ _) rfl oN.out id rfl hok ?_;rw[HG.out]))
         go_ret
         rw[HM.out]
         exact Turn.same HH.out HB2.out rfl
       |none=>
        have rC:Hid (ah nm (bC x)=none):=by rw[dK,hj];rfl
        have HJ:=Lib.hid hj
        rw[hj]at qy
        clear hj
        have Mg:=oF YE.out.2
        have hdd:=Me.out id
        have Qg:=Lib.hid (HDE.out id (by rw[HY.out];rfl))
        unfold rZ at Qg
        generalize j3 T 8 id=dd at qy Qg hdd
        rw[hl']at qy Mg
        have e1:IntKind.i64.wrap ((n':Int)+(dd:Int))=(n':Int)+(dd:Int):=IntWalk.i64_in _ (by omega)
        by_cases hdp:8<n'+dd
        ·have HM:Hid (cu T ls ls'=(3,T)):=Ju.out 3 (by rw[qy.out];simp only[if_pos hdp]) (by decide)
         have hd1:decide ((8:Int)<(n':Int)+(dd:Int))=true:=by simp only[decide_eq_true_eq];omega
         clear hdp
         go_wp2_with (first|(at_lookup;refine aB bV rfl _ _ 92 3 rfl Tryz.underlying92 (Tryz.dU _) rfl mF.out nm rfl kE ?_;rw[rC.out])|(at_lookup;refine aJ aP rfl _ _ 95 88 rfl Tryz.underlying95 (Tryz.aQ _) rfl oN.out id rfl hok ?_;rw[HG.out]))
         (with_reducible refine(Qg.out w2 HB2.out).mono ?_)
         rintro e w4 ⟨rfl,hb4⟩
         have iq:=Lib.hid (HB2.out.trans (hb4.mono HB2.out.size))
         clear hb4
         go_wp2_with fail
         go_ret
         rw[HM.out]
         exact Turn.same HH.out iq.out rfl
        ·have hd1:decide ((8:Int)<(n':Int)+(dd:Int))=false:=by simp only[decide_eq_false_iff_not];omega
         have hpn:ls≠[]:=fun e=>by
          have h1:id=0:=congrArg Prod.fst (HQ.out.trans (by rw[e]<;>exact(rfl:aD T 0 []=(0,0))))
          exact Dc.out h1
         obtain⟨d1,x1,n1,ep,-,hx1,Mh,hn1,Dq,-⟩:=dL HQ.out.symm hpn
         have Mi:=LP (ig YE.out.1 _ Dq)
         have Zo:=Lib.hid (HPP.out d1 n1 ep)
         have Mj:=Lib.hid hx1
         have Fw:=Lib.hid Mh
         have vS:=Lib.hid hn1
         have HM:Hid (cu T ls ls'=(0,setName (aL T d1 n1) d nm id)):=by
          have h0:jR T ls ls'=0:=by rw[qy.out];simp only[if_neg hdp]
          have h1:(ah nm (aM T d)).isSome=false:=by rw[fq HX.out,HJ.out];rfl
          unfold cu tK
          rw[←Qd.out,←HQ.out,ep,h0]
          simp only[h1,and_self,if_true]
          first|exact rfl|exact trivial
         have hc3:∃x3,ah d (aL T d1 n1)=some x3∧x3.kind=2∧ah nm x3.names=none:=by
          unfold aL
          rw[aV]
          by_cases hd:d=d1
          ·subst hd
           have h2:=Mj.out
           rw[HX.out]at h2;cases h2
           rw[if_pos rfl,HX.out]
           refine⟨_,rfl,vN.out,?_⟩
           show ah nm (bI n1 x.names)=none
           rw[eZ]
           split
           ·rfl
           ·exact HJ.out
          ·rw[if_neg hd];exact⟨x,HX.out,vN.out,HJ.out⟩
         obtain⟨x3,hx3,Ml,-⟩:=hc3
         have TA:=Lib.hid hx3
         have Mq:=Lib.hid Ml
         have sW:(bC x3).length<maxLen:=by
          have h1:=(HT.out.tozl.cut (n:=n1) Mj.out Fw.out)
          have h2:x3.names.length≤x.names.length:=by
           have h3:=TA.out
           unfold aL at h3
           rw[aV,HX.out]at h3
           split at h3
           ·simp only[Option.map_some,Option.some.injEq]at h3
            rw[←h3];exact List.length_filter_le _ _
           ·simp only[Option.some.injEq]at h3
            rw[h3];exact Nat.le_refl _
          have h4:=HT.out.few HX.out
          unfold bC maxLen;rw[List.length_map];omega
         have Tc:=Lib.hid sW
         clear hdp hpn ep hx1 Mh hn1 Dq hx3 Ml sW
         go_wp2_with (first|(at_lookup;refine aB bV rfl _ _ 92 3 rfl Tryz.underlying92 (Tryz.dU _) rfl mF.out nm rfl kE ?_;rw[rC.out])|(at_lookup;refine aJ aP rfl _ _ 95 88 rfl Tryz.underlying95 (Tryz.aQ _) rfl oN.out id rfl hok ?_;rw[HG.out]))
         (with_reducible refine(Qg.out w2 HB2.out).mono ?_)
         rintro e w4 ⟨rfl,hb4⟩
         have iq:=Lib.hid (HB2.out.trans (hb4.mono HB2.out.size))
         clear hb4
         go_wp2_with fail
         (with_reducible refine(Zo.out w4 iq.out).mono ?_)
         rintro e w5 ⟨rfl,hb5⟩
         have jI:=Lib.hid (iq.out.trans (hb5.mono iq.out.size))
         clear hb5
         have B_:=HIT.out w5 jI.out
         obtain⟨d8,tO⟩:=jZ B_ Mj.out Fw.out
         have Tf:=Lib.hid B_
         have TB:=Lib.hid tO
         clear B_ tO
         have rJ:Hid (∀w6,MapAt bV w6 (nb d1) (bI n1 (bC x1))→w5.mapTurned w6 (nb d1)→(aC g D w6 p mb ib nb (aL T d1 n1)∧Keeps (fun b=>g b≠ .none) w5 w6)∧w6.cell? ⟨ib d,7,none⟩=some (.map (some (nb d)))∧MapAt bV w6 (nb d) (bC x3)):=fun w6 hM PN=>by
          have h3:=Bd Tf.out Mj.out Fw.out hM PN
          exact⟨h3,jZ h3.1 TA.out Mq.out⟩
         go_wp2_with (first|(at_delete;refine jG bV rfl _ _ 92 3 rfl Tryz.underlying92 rfl TB.out n1 rfl Mi ?_;intro w6 Js Fv;obtain⟨VX,d9,Mr⟩:=rJ.out w6 Js Fv;have Zp:=Lib.hid VX;have TD:=Lib.hid Mr;clear VX Js Fv Mr)|(at_mapUpdate;refine gT bV rfl _ _ _ 92 3 rfl Tryz.underlying92 rfl TD.out Tc.out nm (.int .i64 id) rfl rfl kE ?_;intro w7 VY VZ;have Ae:=Lib.hid VY;have RX:=Lib.hid VZ;clear VY VZ))
         go_ret
         rw[HM.out]
         exact Dp HH.out jI.out Zp.out TA.out Mq.out Ae.out RX.out
    ·have HM:Hid (cu T ls ls'=(z,T)):=Ju.out z (by rw[I8.out,if_neg (by simp),if_neg (by simp),if_neg Dc.out,if_pos hz]) hz
     have hne:(z==0)=false:=by simpa using hz
     have hne2:(z !=0)=true:=by simpa using hz
     rw[if_neg hz]
     clear hz
     go_wp2_with fail
     go_ret
     rw[HM.out]
     exact Turn.same HH.out HB2.out rfl
  ·have HM:Hid (cu T ls ls'=(e0,T)):=Ju.out e0 (by rw[I8.out,if_neg (by simp),if_pos he]) he
   have hne:(e0==0)=false:=by simpa using he
   have hne2:(e0 !=0)=true:=by simpa using he
   clear he
   go_wp2_with fail
   go_ret
   rw[HM.out]
   exact Turn.same HH.out HB1.out rfl
 ·have HM:Hid (cu T ls ls'=(f,T)):=Ju.out f (by rw[I8.out,if_pos hf]) hf
  have hne:(f==0)=false:=by simpa using hf
  have hne2:(f !=0)=true:=by simpa using hf
  clear hf
  go_wp2_with fail
  go_ret
  rw[HM.out]
  exact Turn.same HH.out HB1.out rfl
end
end Go.Proofs.YtmabllemjkcobaaGreatDoor
