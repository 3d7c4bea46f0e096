/- tree: Rename. The reference: its small steps, on trees. -/
import Derived.Test.YtohpcppeajijnaaGreatM18
import Derived.Test.YtohpcppeajijnaaGreatM22
import Derived.Test.YtohpcppeajijnaaGreatM25
import Derived.Test.YtohpcppeajijnaaGreatM26
namespace Go.Proofs.YtohpcppeajijnaaGreat
open Go.ChangeShapes Go.WideShapes Go.ChangeAt Go.RowKit
set_option linter.unusedVariables false
set_option linter.unusedSimpArgs false
theorem sU (p q:List Nm):je (p.map strOf) (q.map strOf)=iA p q:=by
 unfold je iA
 rw[List.length_map,←List.map_take]
 have:((p.take q.length).map strOf=q.map strOf)↔p.take q.length=q:=by
  constructor
  ·intro h
   have:=congrArg Rc h
   rwa [wR,wR]at this
  ·intro h;rw[h]
 simp only[this]
section
variable {g:Nat→Own} {D:Nat→Prop} {p mb:Nat} {ib nb:Int→Nat} {T:aH}
theorem zD {w w2 w3 w4:World} {d1 d2 id:Int} {n1 n2:Nm} {y:bF} (h:aK g D w p mb ib nb T) (hb:Below w.heap.size w w2) (h3:aK g D w3 p mb ib nb (aA T d1 n1)∧Keeps (fun b=>g b≠ .none) w2 w3)
  (hy:aj d2 (aA T d1 n1)=some y) (hk:y.kind=2) (hM:MapAt dx w4 (nb d2) (bY dx.lt n2 (.int .i64 id) (bR y))) (hT:w3.mapTurned w4 (nb d2)):Turn g D w p mb (setName (aA T d1 n1) d2 n2 id) (.int .i64 0) (.returned (.int .i64 0)) w4:=by
 have hg:=h3.1.ku d2 y hy hk
 refine Turn.of rfl (h3.1.set hy hk hM hT) ((gJ hb).trans (h3.2.trans ((dN hT).mono fun b _ hb=> ?_) (fun _ _ h=>h)) (fun _ _ h=>h))
 rw[show b=nb d2 from hb,hg];simp
set_option maxRecDepth 100000 in
set_option maxHeartbeats 8000000 in
theorem D8 {S S':Nat→Prop} (a:Option Addr) (n c:Nat) (ls:List Nm) (a':Option Addr) (n' c':Nat) (ls':List Nm) (w:World) (h:aK g D w p mb ib nb T) (hO:fQ T) (hS:aG S w a n (ls.map strOf)) (hS':aG S' w a' n' (ls'.map strOf)) (hc:n≤c) (jd:n≤1000000) (hc':n'≤c') (ny:n'≤1000000):
  Calls Tryz.prog 93 #[ptr p, .slice a n c, .slice a' n' c'] w (Turn g D w p mb (aY T ls ls').2 (.int .i64 (aY T ls ls').1)):=by
 have HH:=Lib.hid h
 have hT:=hO.1
 have HT:=Lib.hid hT
 have HF:=Lib.hid (yR a n c ls a' n' c' ls' w hS hS')
 have kK:=Lib.hid (fun w1 (hb:Below w.heap.size w w1)=>oo a n c ls w1 (h.below hb (Nat.le_refl _)) hT (hS.below hb (Nat.le_refl _)))
 have ql:=Lib.hid (fun w1 (hb:Below w.heap.size w w1)=>oQ a' n' c' ls' w1 (h.below hb (Nat.le_refl _)) hT (hS'.below hb (Nat.le_refl _)) hc' ny)
 have Fb:=Lib.hid (fun w1 (hb:Below w.heap.size w w1)=>zw a' a n' c' n c (ls'.map strOf) (ls.map strOf) w1 (hS'.below hb (Nat.le_refl _)) (hS.below hb (Nat.le_refl _)) hc')
 rw[sU]at Fb
 have hl':ls'.length=n':=by have:=hS'.length;simpa using this
 have Xd:=Lib.hid (fun(d:Int) (nm:Nm) (hp:aC T ls=(d,nm,0)) w1 (hb:Below w.heap.size w w1)=>uV a n c ls w1 (h.below hb (Nat.le_refl _)) hT (hS.below hb (Nat.le_refl _)) hc jd hp)
 have Xe:=Lib.hid (fun id (hi:(aj id T).isSome=true) w1 (hb:Below w.heap.size w w1)=>zh hT 8 id w1 (h.below hb (Nat.le_refl _)) hi (hO.AQ id) (by omega))
 have HIT:=Lib.hid (fun w1 (hb:Below w.heap.size w w1)=>h.below hb (Nat.le_refl _))
 have Mg:=Lib.hid (fun id=>(hO.AQ id).le)
 clear h hT hS hS' hO
 obtain⟨f,hf0⟩:∃f,f=ig ls ls':=⟨_,rfl⟩
 rw[←hf0]at HF
 obtain⟨⟨id,e0⟩,hq⟩:∃q,q=aF T 0 ls:=⟨_,rfl⟩
 rw[←hq]at kK
 obtain⟨⟨d,nm,z⟩,hq2⟩:∃q,q=aC T ls':=⟨_,rfl⟩
 unfold kZ at ql
 rw[←hq2]at ql
 have yC:Hid (gK T ls ls'=if f≠0 then f else if e0≠0 then e0 else if id=0 then 1 else if z≠0 then z else if bZ T id=2∧iA ls' ls=true then 1 else
   match aj nm (bB T d)with
   |some k=>if k=id then 0 else 21
   |none=>if 8<ls'.length+gy T 8 id then 3 else 0):=by
  unfold gK
  rw[←hf0,←hq,←hq2]<;>exact rfl
 have D9:Hid (∀k,gK T ls ls'=k→k≠0→aY T ls ls'=(k,T)):=fun k hk h0=>by
  unfold aY
  rw[hk,if_neg (fun h=>h0 h.1)]
 have YS:=Lib.hid hf0
 have HQ:=Lib.hid hq
 have MR:=Lib.hid hq2
 clear hf0 hq hq2
 go_enter Tryz.func93,Tryz.ntmps93
 go_wp2_with fail
 (with_reducible refine HF.out.mono ?_)
 rintro e w1 ⟨rfl,hb1⟩
 have HB1:=Lib.hid hb1
 clear hb1
 by_cases hf:f=0
 ·subst hf
  go_wp2_with fail
  (with_reducible refine(kK.out w1 HB1.out).mono ?_)
  rintro e w2 ⟨rfl,rfl⟩
  by_cases he:e0=0
  ·subst he
   by_cases nS:id=0
   ·have HM:Hid (aY T ls ls'=(1,T)):=D9.out 1 (by rw[yC.out,if_neg (by simp),if_neg (by simp),if_pos nS]) (by decide)
    subst nS
    go_wp2_with fail
    go_ret
    rw[HM.out]
    exact Turn.same HH.out HB1.out rfl
   ·have YT:(id==0)=false:=by simpa using nS
    have zf:=Lib.hid nS
    clear nS
    go_wp2_with fail
    (with_reducible refine(ql.out w1 HB1.out).mono ?_)
    rintro e w2 ⟨rfl,hb2⟩
    have HB2:=Lib.hid (HB1.out.trans (hb2.mono HB1.out.size))
    clear hb2
    by_cases hz:z=0
    ·subst hz
     (first|rw[if_pos rfl]|rw[if_pos trivial])
     have hfz:=lq YS.out.symm
     obtain⟨x,hx,hxk,hnm⟩:=fV HT.out (p:=ls') (by rw[←MR.out])
     rw[←MR.out]at hx hnm
     have hgn:=gP hfz.2 _ hnm
     have jw:=Gc hgn
     obtain⟨y,hy⟩:=Option.isSome_iff_exists.1 (ni HQ.out.symm HT.out)
     have nR:=HT.out.ids id y hy
     have hok:bP.ok id:=om nR.1 (by omega)
     have HG:Hid (aj id (T.map fun q=>(q.1,ptr (ib q.1)))=some (ptr (ib id))):=by rw[dX,hy];rfl
     have HX:=Lib.hid hx
     have sN:=Lib.hid hxk
     have HY:=Lib.hid hy
     have yP:=Lib.hid hgn
     have K_:=Lib.hid hfz
     have hA2:=HIT.out w2 HB2.out
     obtain⟨d7,dY⟩:=jm hA2 hx hxk
     have rU:=Lib.hid dY
     have pR:=Lib.hid hA2.map
     have q0:=hA2.cell.1
     obtain⟨_,c1,_⟩:=(hA2.item id y hy).cell
     clear hx hxk hnm hgn hy hfz hA2 dY
     have OV:Hid (gK T ls ls'=if bZ T id=2∧iA ls' ls=true then 1 else match aj nm x.names with|some k=>if k=id then 0 else 21|none=>if 8<ls'.length+gy T 8 id then 3 else 0):=by
      rw[yC.out,if_neg (by simp),if_neg (by simp),if_neg zf.out,if_neg (by simp),dQ HX.out];exact rfl
     by_cases hwk:bZ T id=2∧iA ls' ls=true
     ·have HM:Hid (aY T ls ls'=(1,T)):=D9.out 1 (by rw[OV.out,if_pos hwk]) (by decide)
      have hk2:y.kind=2:=by rw[←b_ HY.out];exact hwk.1
      have hW:=hwk.2
      rw[hW]at Fb
      rw[hk2]at c1
      clear hwk hk2 hW
      cases hj:aj nm x.names with
      |none=>
       have sO:Hid (aj nm (bR x)=none):=by rw[dP,hj];rfl
       clear hj
       go_wp2_with (first|(at_lookup;refine aX dx rfl _ _ 107 3 rfl Tryz.underlying107 (Tryz.fP _) rfl rU.out nm rfl jw ?_;rw[sO.out])|(at_lookup;refine aW bP rfl _ _ 94 92 rfl Tryz.underlying94 (Tryz.bI _) rfl pR.out id rfl hok ?_;rw[HG.out]))
       (with_reducible refine(Fb.out w2 HB2.out).mono ?_)
       rintro e w3 ⟨rfl,hb3⟩
       have HB3:=Lib.hid (HB2.out.trans (hb3.mono HB2.out.size))
       clear hb3
       go_wp2_with fail
       go_ret
       rw[HM.out]
       exact Turn.same HH.out HB3.out rfl
      |some j=>
       have sO:Hid (aj nm (bR x)=some (.int .i64 j)):=by rw[dP,hj];rfl
       clear hj
       go_wp2_with (first|(at_lookup;refine aX dx rfl _ _ 107 3 rfl Tryz.underlying107 (Tryz.fP _) rfl rU.out nm rfl jw ?_;rw[sO.out])|(at_lookup;refine aW bP rfl _ _ 94 92 rfl Tryz.underlying94 (Tryz.bI _) rfl pR.out id rfl hok ?_;rw[HG.out]))
       (with_reducible refine(Fb.out w2 HB2.out).mono ?_)
       rintro e w3 ⟨rfl,hb3⟩
       have HB3:=Lib.hid (HB2.out.trans (hb3.mono HB2.out.size))
       clear hb3
       go_wp2_with fail
       go_ret
       rw[HM.out]
       exact Turn.same HH.out HB3.out rfl
     ·have nT:Hid (gK T ls ls'=match aj nm x.names with|some k=>if k=id then 0 else 21|none=>if 8<ls'.length+gy T 8 id then 3 else 0):=by
       rw[OV.out,if_neg hwk];exact rfl
      by_cases hk2:y.kind=2
      ·have hW:iA ls' ls=false:=by
        cases hw:iA ls' ls with
        |false=>rfl
        |true=>exact absurd ⟨(b_ HY.out).trans hk2,hw⟩ hwk
       rw[hW]at Fb
       rw[hk2]at c1
       clear hwk hk2 hW
       cases hj:aj nm x.names with
       |some j=>
        have sO:Hid (aj nm (bR x)=some (.int .i64 j)):=by rw[dP,hj];rfl
        have OW:Hid ((aj nm x.names).isSome=true):=by rw[hj];exact rfl
        rw[hj]at nT
        clear hj
        by_cases hji:j=id
        ·rw[hji]at sO nT
         clear hji
         have HM:Hid (aY T ls ls'=(0,T)):=by
          unfold aY
          rw[←MR.out,dQ HX.out,OW.out,nT.out]
          simp only[if_pos,if_neg,and_false,Bool.true_eq_false,if_false]
          first|exact rfl|exact trivial
         go_wp2_with (first|(at_lookup;refine aX dx rfl _ _ 107 3 rfl Tryz.underlying107 (Tryz.fP _) rfl rU.out nm rfl jw ?_;rw[sO.out])|(at_lookup;refine aW bP rfl _ _ 94 92 rfl Tryz.underlying94 (Tryz.bI _) rfl pR.out id rfl hok ?_;rw[HG.out]))
         (with_reducible refine(Fb.out w2 HB2.out).mono ?_)
         rintro e w3 ⟨rfl,hb3⟩
         have HB3:=Lib.hid (HB2.out.trans (hb3.mono HB2.out.size))
         clear hb3
         go_wp2_with fail
         go_ret
         rw[HM.out]
         exact Turn.same HH.out HB3.out rfl
        ·have hne:(j==id)=false:=by simpa using hji
         have HM:Hid (aY T ls ls'=(21,T)):=D9.out 21 (by rw[nT.out];simp only[if_neg hji]) (by decide)
         clear hji
         go_wp2_with (first|(at_lookup;refine aX dx rfl _ _ 107 3 rfl Tryz.underlying107 (Tryz.fP _) rfl rU.out nm rfl jw ?_;rw[sO.out])|(at_lookup;refine aW bP rfl _ _ 94 92 rfl Tryz.underlying94 (Tryz.bI _) rfl pR.out id rfl hok ?_;rw[HG.out]))
         (with_reducible refine(Fb.out w2 HB2.out).mono ?_)
         rintro e w3 ⟨rfl,hb3⟩
         have HB3:=Lib.hid (HB2.out.trans (hb3.mono HB2.out.size))
         clear hb3
         go_wp2_with fail
         go_ret
         rw[HM.out]
         exact Turn.same HH.out HB3.out rfl
       |none=>
        have sO:Hid (aj nm (bR x)=none):=by rw[dP,hj];rfl
        have HJ:=Lib.hid hj
        rw[hj]at nT
        clear hj
        have GH:=kT K_.out.2
        have hdd:=Mg.out id
        have Jb:=Lib.hid (Xe.out id (by rw[HY.out];rfl))
        unfold pY at Jb
        generalize gy T 8 id=dd at nT Jb hdd
        rw[hl']at nT GH
        have e1:IntKind.i64.wrap ((n':Int)+(dd:Int))=(n':Int)+(dd:Int):=IntWalk.i64_in _ (by omega)
        by_cases hdp:8<n'+dd
        ·have HM:Hid (aY T ls ls'=(3,T)):=D9.out 3 (by rw[nT.out];simp only[if_pos hdp]) (by decide)
         have hd1:decide ((8:Int)<(n':Int)+(dd:Int))=true:=by simp only[decide_eq_true_eq];omega
         clear hdp
         go_wp2_with (first|(at_lookup;refine aX dx rfl _ _ 107 3 rfl Tryz.underlying107 (Tryz.fP _) rfl rU.out nm rfl jw ?_;rw[sO.out])|(at_lookup;refine aW bP rfl _ _ 94 92 rfl Tryz.underlying94 (Tryz.bI _) rfl pR.out id rfl hok ?_;rw[HG.out]))
         (with_reducible refine(Fb.out w2 HB2.out).mono ?_)
         rintro e w3 ⟨rfl,hb3⟩
         have HB3:=Lib.hid (HB2.out.trans (hb3.mono HB2.out.size))
         clear hb3
         go_wp2_with fail
         (with_reducible refine(Jb.out w3 HB3.out).mono ?_)
         rintro e w4 ⟨rfl,hb4⟩
         have eG:=Lib.hid (HB3.out.trans (hb4.mono HB3.out.size))
         clear hb4
         go_wp2_with fail
         go_ret
         rw[HM.out]
         exact Turn.same HH.out eG.out rfl
        ·have hd1:decide ((8:Int)<(n':Int)+(dd:Int))=false:=by simp only[decide_eq_false_iff_not];omega
         have hpn:ls≠[]:=fun e=>by
          have h1:id=0:=congrArg Prod.fst (HQ.out.trans (by rw[e]<;>exact(rfl:aF T 0 []=(0,0))))
          exact zf.out h1
         obtain⟨d1,x1,n1,ep,-,hx1,yj,hn1,zF,-⟩:=bS HQ.out.symm hpn
         have GI:=Gc (gP K_.out.1 _ zF)
         have Sd:=Lib.hid (Xd.out d1 n1 ep)
         have z_:=Lib.hid hx1
         have Bj:=Lib.hid yj
         have YU:=Lib.hid hn1
         have HM:Hid (aY T ls ls'=(0,setName (aA T d1 n1) d nm id)):=by
          have h0:gK T ls ls'=0:=by rw[nT.out];simp only[if_neg hdp]
          have h1:(aj nm (bB T d)).isSome=false:=by rw[dQ HX.out,HJ.out];rfl
          unfold aY mH
          rw[←MR.out,←HQ.out,ep,h0]
          simp only[h1,and_self,if_true]
          first|exact rfl|exact trivial
         have hc3:∃x3,aj d (aA T d1 n1)=some x3∧x3.kind=2∧aj nm x3.names=none:=by
          unfold aA
          rw[aS]
          by_cases hd:d=d1
          ·subst hd
           have h2:=z_.out
           rw[HX.out]at h2;cases h2
           rw[if_pos rfl,HX.out]
           refine⟨_,rfl,sN.out,?_⟩
           show aj nm (bH n1 x.names)=none
           rw[eD]
           split
           ·rfl
           ·exact HJ.out
          ·rw[if_neg hd];exact⟨x,HX.out,sN.out,HJ.out⟩
         obtain⟨x3,hx3,GJ,-⟩:=hc3
         have MS:=Lib.hid hx3
         have GK:=Lib.hid GJ
         have tJ:(bR x3).length<maxLen:=by
          have h1:=(HT.out.totF.cut (n:=n1) z_.out Bj.out)
          have h2:x3.names.length≤x.names.length:=by
           have h3:=MS.out
           unfold aA at h3
           rw[aS,HX.out]at h3
           split at h3
           ·simp only[Option.map_some,Option.some.injEq]at h3
            rw[←h3];exact List.length_filter_le _ _
           ·simp only[Option.some.injEq]at h3
            rw[h3];exact Nat.le_refl _
          have h4:=HT.out.few HX.out
          unfold bR maxLen;rw[List.length_map];omega
         have LG:=Lib.hid tJ
         clear hdp hpn ep hx1 yj hn1 zF hx3 GJ tJ
         go_wp2_with (first|(at_lookup;refine aX dx rfl _ _ 107 3 rfl Tryz.underlying107 (Tryz.fP _) rfl rU.out nm rfl jw ?_;rw[sO.out])|(at_lookup;refine aW bP rfl _ _ 94 92 rfl Tryz.underlying94 (Tryz.bI _) rfl pR.out id rfl hok ?_;rw[HG.out]))
         (with_reducible refine(Fb.out w2 HB2.out).mono ?_)
         rintro e w3 ⟨rfl,hb3⟩
         have HB3:=Lib.hid (HB2.out.trans (hb3.mono HB2.out.size))
         clear hb3
         go_wp2_with fail
         (with_reducible refine(Jb.out w3 HB3.out).mono ?_)
         rintro e w4 ⟨rfl,hb4⟩
         have eG:=Lib.hid (HB3.out.trans (hb4.mono HB3.out.size))
         clear hb4
         go_wp2_with fail
         (with_reducible refine(Sd.out w4 eG.out).mono ?_)
         rintro e w5 ⟨rfl,hb5⟩
         have iY:=Lib.hid (eG.out.trans (hb5.mono eG.out.size))
         clear hb5
         have AP:=HIT.out w5 iY.out
         obtain⟨d8,qO⟩:=jm AP z_.out Bj.out
         have LY:=Lib.hid AP
         have MU:=Lib.hid qO
         clear AP qO
         have xS:Hid (∀w6,MapAt dx w6 (nb d1) (bH n1 (bR x1))→w5.mapTurned w6 (nb d1)→(aK g D w6 p mb ib nb (aA T d1 n1)∧Keeps (fun b=>g b≠ .none) w5 w6)∧w6.cell? ⟨ib d,7,none⟩=some (.map (some (nb d)))∧MapAt dx w6 (nb d) (bR x3)):=fun w6 hM JD=>by
          have h3:=xR LY.out z_.out Bj.out hM JD
          exact⟨h3,jm h3.1 MS.out GK.out⟩
         go_wp2_with (first|(at_delete;refine iX dx rfl _ _ 107 3 rfl Tryz.underlying107 rfl MU.out n1 rfl GI ?_;intro w6 La Fe;obtain⟨OX,d9,GL⟩:=xS.out w6 La Fe;have Sg:=Lib.hid OX;have MV:=Lib.hid GL;clear OX La Fe GL)|(at_mapUpdate;refine kJ dx rfl _ _ _ 107 3 rfl Tryz.underlying107 rfl MV.out LG.out nm (.int .i64 id) rfl rfl jw ?_;intro w7 OY OZ;have Jg:=Lib.hid OY;have JV:=Lib.hid OZ;clear OY OZ))
         go_ret
         rw[HM.out]
         exact zD HH.out iY.out Sg.out MS.out GK.out Jg.out JV.out
      ·have hkk:(y.kind==2)=false:=by simpa using hk2
       clear hwk hk2
       cases hj:aj nm x.names with
       |some j=>
        have sO:Hid (aj nm (bR x)=some (.int .i64 j)):=by rw[dP,hj];rfl
        have OW:Hid ((aj nm x.names).isSome=true):=by rw[hj];exact rfl
        rw[hj]at nT
        clear hj
        by_cases hji:j=id
        ·rw[hji]at sO nT
         clear hji
         have HM:Hid (aY T ls ls'=(0,T)):=by
          unfold aY
          rw[←MR.out,dQ HX.out,OW.out,nT.out]
          simp only[if_pos,if_neg,and_false,Bool.true_eq_false,if_false]
          first|exact rfl|exact trivial
         go_wp2_with (first|(at_lookup;refine aX dx rfl _ _ 107 3 rfl Tryz.underlying107 (Tryz.fP _) rfl rU.out nm rfl jw ?_;rw[sO.out])|(at_lookup;refine aW bP rfl _ _ 94 92 rfl Tryz.underlying94 (Tryz.bI _) rfl pR.out id rfl hok ?_;rw[HG.out]))
         go_ret
         rw[HM.out]
         exact Turn.same HH.out HB2.out rfl
        ·have hne:(j==id)=false:=by simpa using hji
         have HM:Hid (aY T ls ls'=(21,T)):=D9.out 21 (by rw[nT.out];simp only[if_neg hji]) (by decide)
         clear hji
         go_wp2_with (first|(at_lookup;refine aX dx rfl _ _ 107 3 rfl Tryz.underlying107 (Tryz.fP _) rfl rU.out nm rfl jw ?_;rw[sO.out])|(at_lookup;refine aW bP rfl _ _ 94 92 rfl Tryz.underlying94 (Tryz.bI _) rfl pR.out id rfl hok ?_;rw[HG.out]))
         go_ret
         rw[HM.out]
         exact Turn.same HH.out HB2.out rfl
       |none=>
        have sO:Hid (aj nm (bR x)=none):=by rw[dP,hj];rfl
        have HJ:=Lib.hid hj
        rw[hj]at nT
        clear hj
        have GH:=kT K_.out.2
        have hdd:=Mg.out id
        have Jb:=Lib.hid (Xe.out id (by rw[HY.out];rfl))
        unfold pY at Jb
        generalize gy T 8 id=dd at nT Jb hdd
        rw[hl']at nT GH
        have e1:IntKind.i64.wrap ((n':Int)+(dd:Int))=(n':Int)+(dd:Int):=IntWalk.i64_in _ (by omega)
        by_cases hdp:8<n'+dd
        ·have HM:Hid (aY T ls ls'=(3,T)):=D9.out 3 (by rw[nT.out];simp only[if_pos hdp]) (by decide)
         have hd1:decide ((8:Int)<(n':Int)+(dd:Int))=true:=by simp only[decide_eq_true_eq];omega
         clear hdp
         go_wp2_with (first|(at_lookup;refine aX dx rfl _ _ 107 3 rfl Tryz.underlying107 (Tryz.fP _) rfl rU.out nm rfl jw ?_;rw[sO.out])|(at_lookup;refine aW bP rfl _ _ 94 92 rfl Tryz.underlying94 (Tryz.bI _) rfl pR.out id rfl hok ?_;rw[HG.out]))
         (with_reducible refine(Jb.out w2 HB2.out).mono ?_)
         rintro e w4 ⟨rfl,hb4⟩
         have eG:=Lib.hid (HB2.out.trans (hb4.mono HB2.out.size))
         clear hb4
         go_wp2_with fail
         go_ret
         rw[HM.out]
         exact Turn.same HH.out eG.out rfl
        ·have hd1:decide ((8:Int)<(n':Int)+(dd:Int))=false:=by simp only[decide_eq_false_iff_not];omega
         have hpn:ls≠[]:=fun e=>by
          have h1:id=0:=congrArg Prod.fst (HQ.out.trans (by rw[e]<;>exact(rfl:aF T 0 []=(0,0))))
          exact zf.out h1
         obtain⟨d1,x1,n1,ep,-,hx1,yj,hn1,zF,-⟩:=bS HQ.out.symm hpn
         have GI:=Gc (gP K_.out.1 _ zF)
         have Sd:=Lib.hid (Xd.out d1 n1 ep)
         have z_:=Lib.hid hx1
         have Bj:=Lib.hid yj
         have YU:=Lib.hid hn1
         have HM:Hid (aY T ls ls'=(0,setName (aA T d1 n1) d nm id)):=by
          have h0:gK T ls ls'=0:=by rw[nT.out];simp only[if_neg hdp]
          have h1:(aj nm (bB T d)).isSome=false:=by rw[dQ HX.out,HJ.out];rfl
          unfold aY mH
          rw[←MR.out,←HQ.out,ep,h0]
          simp only[h1,and_self,if_true]
          first|exact rfl|exact trivial
         have hc3:∃x3,aj d (aA T d1 n1)=some x3∧x3.kind=2∧aj nm x3.names=none:=by
          unfold aA
          rw[aS]
          by_cases hd:d=d1
          ·subst hd
           have h2:=z_.out
           rw[HX.out]at h2;cases h2
           rw[if_pos rfl,HX.out]
           refine⟨_,rfl,sN.out,?_⟩
           show aj nm (bH n1 x.names)=none
           rw[eD]
           split
           ·rfl
           ·exact HJ.out
          ·rw[if_neg hd];exact⟨x,HX.out,sN.out,HJ.out⟩
         obtain⟨x3,hx3,GJ,-⟩:=hc3
         have MS:=Lib.hid hx3
         have GK:=Lib.hid GJ
         have tJ:(bR x3).length<maxLen:=by
          have h1:=(HT.out.totF.cut (n:=n1) z_.out Bj.out)
          have h2:x3.names.length≤x.names.length:=by
           have h3:=MS.out
           unfold aA at h3
           rw[aS,HX.out]at h3
           split at h3
           ·simp only[Option.map_some,Option.some.injEq]at h3
            rw[←h3];exact List.length_filter_le _ _
           ·simp only[Option.some.injEq]at h3
            rw[h3];exact Nat.le_refl _
          have h4:=HT.out.few HX.out
          unfold bR maxLen;rw[List.length_map];omega
         have LG:=Lib.hid tJ
         clear hdp hpn ep hx1 yj hn1 zF hx3 GJ tJ
         go_wp2_with (first|(at_lookup;refine aX dx rfl _ _ 107 3 rfl Tryz.underlying107 (Tryz.fP _) rfl rU.out nm rfl jw ?_;rw[sO.out])|(at_lookup;refine aW bP rfl _ _ 94 92 rfl Tryz.underlying94 (Tryz.bI _) rfl pR.out id rfl hok ?_;rw[HG.out]))
         (with_reducible refine(Jb.out w2 HB2.out).mono ?_)
         rintro e w4 ⟨rfl,hb4⟩
         have eG:=Lib.hid (HB2.out.trans (hb4.mono HB2.out.size))
         clear hb4
         go_wp2_with fail
         (with_reducible refine(Sd.out w4 eG.out).mono ?_)
         rintro e w5 ⟨rfl,hb5⟩
         have iY:=Lib.hid (eG.out.trans (hb5.mono eG.out.size))
         clear hb5
         have AP:=HIT.out w5 iY.out
         obtain⟨d8,qO⟩:=jm AP z_.out Bj.out
         have LY:=Lib.hid AP
         have MU:=Lib.hid qO
         clear AP qO
         have xS:Hid (∀w6,MapAt dx w6 (nb d1) (bH n1 (bR x1))→w5.mapTurned w6 (nb d1)→(aK g D w6 p mb ib nb (aA T d1 n1)∧Keeps (fun b=>g b≠ .none) w5 w6)∧w6.cell? ⟨ib d,7,none⟩=some (.map (some (nb d)))∧MapAt dx w6 (nb d) (bR x3)):=fun w6 hM JD=>by
          have h3:=xR LY.out z_.out Bj.out hM JD
          exact⟨h3,jm h3.1 MS.out GK.out⟩
         go_wp2_with (first|(at_delete;refine iX dx rfl _ _ 107 3 rfl Tryz.underlying107 rfl MU.out n1 rfl GI ?_;intro w6 La Fe;obtain⟨OX,d9,GL⟩:=xS.out w6 La Fe;have Sg:=Lib.hid OX;have MV:=Lib.hid GL;clear OX La Fe GL)|(at_mapUpdate;refine kJ dx rfl _ _ _ 107 3 rfl Tryz.underlying107 rfl MV.out LG.out nm (.int .i64 id) rfl rfl jw ?_;intro w7 OY OZ;have Jg:=Lib.hid OY;have JV:=Lib.hid OZ;clear OY OZ))
         go_ret
         rw[HM.out]
         exact zD HH.out iY.out Sg.out MS.out GK.out Jg.out JV.out
    ·have HM:Hid (aY T ls ls'=(z,T)):=D9.out z (by rw[yC.out,if_neg (by simp),if_neg (by simp),if_neg zf.out,if_pos hz]) hz
     have hne:(z==0)=false:=by simpa using hz
     have hne2:(z !=0)=true:=by simpa using hz
     rw[if_neg hz]
     clear hz
     go_wp2_with fail
     go_ret
     rw[HM.out]
     exact Turn.same HH.out HB2.out rfl
  ·have HM:Hid (aY T ls ls'=(e0,T)):=D9.out e0 (by rw[yC.out,if_neg (by simp),if_pos he]) he
   have hne:(e0==0)=false:=by simpa using he
   have hne2:(e0 !=0)=true:=by simpa using he
   clear he
   go_wp2_with fail
   go_ret
   rw[HM.out]
   exact Turn.same HH.out HB1.out rfl
 ·have HM:Hid (aY T ls ls'=(f,T)):=D9.out f (by rw[yC.out,if_pos hf]) hf
  have hne:(f==0)=false:=by simpa using hf
  have hne2:(f !=0)=true:=by simpa using hf
  clear hf
  go_wp2_with fail
  go_ret
  rw[HM.out]
  exact Turn.same HH.out HB1.out rfl
end
structure oI (T:aH):Prop where
 sorted:aP iC T
 names:∀q∈T,aP bytesBefore q.2.names
 len:T.length≤64
 few:(aU T).length≤5000
theorem oI.of {T:aH} (h:dA T):oI T:=⟨h.sorted,fun q hq=>(h.each _ _ (bX dR h.sorted hq)).sorted,h.len,by have:=gZ h;omega⟩
theorem qP {T:aH} {d:Int} {f:bF→bF} {q:Int×bF} (h:q∈bf d f T):q∈T∨∃p∈T,p.1=d∧q=(p.1,f p.2):=by
 unfold bf at h
 obtain⟨p,hp,e⟩:=List.mem_map.1 h
 by_cases hd:p.1=d
 ·rw[if_pos hd]at e
  exact .inr ⟨p,hp,hd,e.symm⟩
 ·rw[if_neg hd]at e
  exact .inl (e▸hp)
theorem oI.cut {T:aH} (h:oI T) (d:Int) (n:Nm):oI (aA T d n):=by
 refine⟨jk _ _ h.sorted,fun q hq=> ?_,by unfold aA;rw[fU];exact h.len,?_⟩
 ·rcases qP hq with h1|⟨p,hp,_,rfl⟩
  ·exact h.names q h1
  ·exact(h.names p hp).bH _
 ·rw[←vC]
  exact Nat.le_trans (List.length_filter_le _ _) h.few
theorem oI.bf {T:aH} (h:oI T) (d:Int) {f:bF→bF} (hf:∀x,(f x).names=x.names):oI (Go.Proofs.YtohpcppeajijnaaGreat.bf d f T):=by
 refine⟨jk _ _ h.sorted,fun q hq=> ?_,by rw[fU];exact h.len,by rw[jP hf];exact h.few⟩
 rcases qP hq with h1|⟨p,hp,_,rfl⟩
 ·exact h.names q h1
 ·show aP bytesBefore (f p.2).names
  rw[hf];exact h.names p hp
theorem zG (E:List iF) (d:Int) (nm:Nm) (id:Int):(lW E d nm id).length=E.length+1:=by
 unfold lW
 have:=congrArg List.length (List.takeWhile_append_dropWhile (p:=jo d nm) (l:=E))
 rw[List.length_append]at this
 rw[List.length_append,List.length_cons]
 omega
theorem oI.get {T:aH} (h:oI T) {d:Int} {x:bF} (hx:aj d T=some x):aP bytesBefore x.names:=h.names (d,x) (cu hx)
theorem qQ {T:aH} (h:oI T) {id j:Int} {x:bF} {nm:Nm} (hx:aj id T=some x) (hn:aj nm x.names=some j):∃k:Nat,lU (gB id nm) (aU T)=k∧(aU T)[k]? =some (id,nm,j):=by
 have hmem:((id,nm,j):iF)∈aU T:=(iZ h.sorted).2 ⟨x,hx,cu hn⟩
 cases hf:(aU T).findIdx? (gB id nm)with
 |none=>
  rw[List.findIdx?_eq_none_iff]at hf
  have:=hf _ hmem
  simp[gB]at this
 |some k=>
  refine⟨k,by simp[lU,hf],?_⟩
  rw[List.findIdx?_eq_some_iff_getElem]at hf
  obtain⟨hk,hp,_⟩:=hf
  have h1:(aU T)[k]? =some (aU T)[k]:=List.getElem?_eq_getElem hk
  obtain⟨e,he⟩:∃e,e=(aU T)[k]:=⟨_,rfl⟩
  have hm:=List.getElem_mem hk
  rw[←he]at h1 hp hm
  simp only[gB,decide_eq_true_eq]at hp
  obtain⟨y,hy,hm2⟩:=(iZ h.sorted).1 hm
  rw[hp.1,hx]at hy
  cases hy
  have h3:=bX uD (h.get hx) hm2
  rw[hp.2,hn]at h3
  rw[h1]
  congr 1
  exact Prod.ext hp.1 (Prod.ext hp.2 (Option.some.inj h3).symm)
theorem oI.put {T:aH} (h:oI T) {d:Int} {x:bF} {n:Nm} (hx:aj d T=some x) (hn:aj n x.names=none) (hf:(aU T).length≤4096) (id:Int):oI (setName T d n id):=by
 refine⟨jk _ _ h.sorted,fun q hq=> ?_,by unfold setName;rw[fU];exact h.len,?_⟩
 ·rcases qP hq with h1|⟨p,hp,_,rfl⟩
  ·exact h.names q h1
  ·exact(h.names p hp).bY uD _ _
 ·rw[←vB h.sorted hx (h.get hx) hn,zG]
  omega
theorem dh.val {F:Nat→Prop} {w w':World} {r:Nat} {T:aH} {D:List (List UInt8)} {E:List iF} {v:Value} {e:Ending} (h:dh F w r T D E v e w') (v2:Value):dh F w r T D E v2 (.returned v2) w':=⟨rfl,h.2.1,h.2.2⟩
section
variable {F:Nat→Prop} {r:Nat} {T:aH}
theorem uf (d:Int) (nm:Nm) (j:Int) (x:bF) (w:World) (h:gU F w r T) (hL:oI T) (hx:aj d T=some x) (hn:aj nm x.names=some j):
  ∃k:Nat,lU (gB d nm) (aU T)=k∧Calls Tryz.prog 69 #[ptr r, .int .i64 k] w (bA F w r (aA T d nm) (.tuple #[])):=by
 obtain⟨k,hk,he⟩:=qQ hL hx hn
 refine⟨k,hk,(CQ k w h (List.getElem?_eq_some_iff.1 he).1 (by have:=hL.few;omega)).mono fun e w' ht=> ?_⟩
 have h1:(aU T).take k++(aU T).drop (k+1)=aU (aA T d nm):=by
  rw[qd (p:=gB d nm) he (by simp[gB]) (Bc hL.sorted hL.names d nm),vC]
 rw[h1]at ht
 refine⟨ht.1,ht.2.1,?_⟩
 have:=ht.2.2.names (T':=aA T d nm) (fU _ _ _) (qg (id:=d) (f:=fun x=>{x with names:=bH nm x.names}) (fun _=>rfl) T)
 unfold aA at this⊢
 rw[kV (fun _=>by exact rfl)]
 exact this
theorem qR (d:Int) (nm:Nm) (id:Int) (x:bF) (w:World) (h:gU F w r T) (hL:oI T) (hx:aj d T=some x) (hn:aj nm x.names=none):
  Calls Tryz.prog 65 #[ptr r, .int .i64 d, .string (strOf nm), .int .i64 id] w (bA F w r (setName T d nm id) (.tuple #[])):=by
 refine(JU d nm id w h (by have:=hL.few;omega)).mono fun e w' ht=> ?_
 rw[vB hL.sorted hx (hL.get hx) hn]at ht
 refine⟨ht.1,ht.2.1,?_⟩
 have:=ht.2.2.names (T':=setName T d nm id) (fU _ _ _) (qg (id:=d) (f:=fun x=>{x with names:=bY bytesBefore nm id x.names}) (fun _=>rfl) T)
 unfold setName at this⊢
 rw[kV (fun _=>by exact rfl)]
 exact this
theorem pE (id Bh:Int) (x:bF) (w:World) (h:gU F w r T) (hL:oI T) (hx:aj id T=some x) (hb0: -1≤Bh∧Bh≤1) (hl0:0≤x.links∧x.links≤64):
  Calls Tryz.prog 74 #[ptr r, .int .i64 id, .int .i64 Bh] w (bA F w r (bf id (fun x=>{x with links:=x.links+Bh}) T) (.tuple #[])):=by
 obtain⟨k,hk,hq⟩:=iO hL.sorted hx
 refine(Bg id Bh k (id,x) w h hL.len hk hq hb0 hl0).mono fun e w' ht=> ?_
 have h1:=kN (f:=fun x:bF=>{x with links:=x.links+Bh}) hL.sorted hq
 simp only at h1 ht
 rw[h1]at ht
 refine⟨ht.1,ht.2.1,?_⟩
 rw[kV (fun _=>by exact rfl),jP (fun _=>by exact rfl)]
 exact ht.2.2
theorem oJ (id:Int) (x:bF) (w:World) (h:gU F w r T) (hs:aP iC T) (hl:T.length≤64) (hx:aj id T=some x) (hn:x.names=[]):
  Calls Tryz.prog 70 #[ptr r, .int .i64 id] w (bA F w r (bH id T) (.tuple #[])):=by
 obtain⟨k,hk,hq⟩:=iO hs hx
 refine(D7 id k w h hl (by rw[List.length_map]) hk (List.getElem?_eq_some_iff.1 hq).1).mono fun e w' ht=> ?_
 have h1:=Mr hs hq
 simp only at h1
 rw[←List.map_take,←List.map_drop,←List.map_append,h1]at ht
 refine⟨ht.1,ht.2.1,?_⟩
 rw[zy (fun q hq2 hid=>by
  have:=bX dR hs hq2
  rw[hid,hx]at this
  cases this
  exact hn)]
 exact ht.2.2
end
end Go.Proofs.YtohpcppeajijnaaGreat
