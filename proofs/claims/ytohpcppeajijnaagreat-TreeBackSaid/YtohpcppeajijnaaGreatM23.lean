/- tree: Rename. The reference: its small steps, on trees. -/
import Derived.Test.YtohpcppeajijnaaGreatM16
import Derived.Test.YtohpcppeajijnaaGreatM18
import Derived.Test.YtohpcppeajijnaaGreatM21
import Derived.Test.YtohpcppeajijnaaGreatM22
namespace Go.Proofs.YtohpcppeajijnaaGreat
open Go.ChangeShapes Go.WideShapes Go.ChangeAt Go.RowKit
set_option linter.unusedVariables false
set_option linter.unusedSimpArgs false
theorem uP (p q:List Nm):jq (p.map strOf) (q.map strOf)=iB p q:=by
 unfold jq iB
 rw[List.length_map,←List.map_take]
 have:((p.take q.length).map strOf=q.map strOf)↔p.take q.length=q:=by
  constructor
  ·intro h
   have:=congrArg RS h
   rwa [yH,yH]at this
  ·intro h;rw[h]
 simp only[this]
section
variable {g:Nat→Own} {D:Nat→Prop} {p mb:Nat} {ib nb:Int→Nat} {T:aF}
theorem BF {w w2 w3 w4:World} {d1 d2 id:Int} {n1 n2:Nm} {y:bF} (h:aJ g D w p mb ib nb T) (hb:Below w.heap.size w w2) (h3:aJ g D w3 p mb ib nb (aA T d1 n1)∧Keeps (fun b=>g b≠ .none) w2 w3)
  (hy:aj d2 (aA T d1 n1)=some y) (hk:y.kind=2) (hM:MapAt cK w4 (nb d2) (bT cK.lt n2 (.int .i64 id) (bO y))) (hT:w3.mapTurned w4 (nb d2)):Turn g D w p mb (setName (aA T d1 n1) d2 n2 id) (.int .i64 0) (.returned (.int .i64 0)) w4:=by
 have hg:=h3.1.kI d2 y hy hk
 refine Turn.of rfl (h3.1.set hy hk hM hT) ((jE hb).trans (h3.2.trans ((fK hT).mono fun b _ hb=> ?_) (fun _ _ h=>h)) (fun _ _ h=>h))
 rw[show b=nb d2 from hb,hg];simp
set_option maxRecDepth 100000 in
set_option maxHeartbeats 8000000 in
theorem za {S S':Nat→Prop} (a:Option Addr) (n c:Nat) (ls:List Nm) (a':Option Addr) (n' c':Nat) (ls':List Nm) (w:World) (h:aJ g D w p mb ib nb T) (hO:fU T) (hS:aH S w a n (ls.map strOf)) (hS':aH S' w a' n' (ls'.map strOf)) (hc:n≤c) (jS:n≤1000000) (hc':n'≤c') (uj:n'≤1000000):
  Calls Tryz.prog 93 #[ptr p, .slice a n c, .slice a' n' c'] w (Turn g D w p mb (aT T ls ls').2 (.int .i64 (aT T ls ls').1)):=by
 have HH:=Lib.hid h
 have hT:=hO.1
 have HT:=Lib.hid hT
 have HF:=Lib.hid (AZ a n c ls a' n' c' ls' w hS hS')
 have kW:=Lib.hid (fun w1 (hb:Below w.heap.size w w1)=>nA a n c ls w1 (h.below hb (Nat.le_refl _)) hT (hS.below hb (Nat.le_refl _)))
 have qK:=Lib.hid (fun w1 (hb:Below w.heap.size w w1)=>qm a' n' c' ls' w1 (h.below hb (Nat.le_refl _)) hT (hS'.below hb (Nat.le_refl _)) hc' uj)
 have Ku:=Lib.hid (fun w1 (hb:Below w.heap.size w w1)=>Br a' a n' c' n c (ls'.map strOf) (ls.map strOf) w1 (hS'.below hb (Nat.le_refl _)) (hS.below hb (Nat.le_refl _)) hc')
 rw[uP]at Ku
 have hl':ls'.length=n':=by have:=hS'.length;simpa using this
 have Vg:=Lib.hid (fun(d:Int) (nm:Nm) (hp:aB T ls=(d,nm,0)) w1 (hb:Below w.heap.size w w1)=>wm a n c ls w1 (h.below hb (Nat.le_refl _)) hT (hS.below hb (Nat.le_refl _)) hc jS hp)
 have Vh:=Lib.hid (fun id (hi:(aj id T).isSome=true) w1 (hb:Below w.heap.size w w1)=>Bl hT 8 id w1 (h.below hb (Nat.le_refl _)) hi (hO.Da id) (by omega))
 have HIT:=Lib.hid (fun w1 (hb:Below w.heap.size w w1)=>h.below hb (Nat.le_refl _))
 have IE:=Lib.hid (fun id=>(hO.Da id).le)
 clear h hT hS hS' hO
 obtain⟨f,hf0⟩:∃f,f=iw ls ls':=⟨_,rfl⟩
 rw[←hf0]at HF
 obtain⟨⟨id,e0⟩,hq⟩:∃q,q=aC T 0 ls:=⟨_,rfl⟩
 rw[←hq]at kW
 obtain⟨⟨d,nm,z⟩,hq2⟩:∃q,q=aB T ls':=⟨_,rfl⟩
 unfold l8 at qK
 rw[←hq2]at qK
 have Fh:Hid (gP T ls ls'=if f≠0 then f else if e0≠0 then e0 else if id=0 then 1 else if z≠0 then z else if bq T id=2∧iB ls' ls=true then 1 else
   match aj nm (aO T d)with
   |some k=>if k=id then 0 else 21
   |none=>if 8<ls'.length+fV T 8 id then 3 else 0):=by
  unfold gP
  rw[←hf0,←hq,←hq2]<;>exact rfl
 have Kv:Hid (∀k,gP T ls ls'=k→k≠0→aT T ls ls'=(k,T)):=fun k hk h0=>by
  unfold aT
  rw[hk,if_neg (fun h=>h0 h.1)]
 have Xi:=Lib.hid hf0
 have HQ:=Lib.hid hq
 have Pf:=Lib.hid hq2
 clear hf0 hq hq2
 go_enter Tryz.func93,Tryz.ntmps93
 go_wp2_with fail
 (with_reducible refine HF.out.mono ?_)
 rintro e w1 ⟨rfl,hb1⟩
 have HB1:=Lib.hid hb1
 clear hb1
 by_cases hf:f=0
 ·subst hf
  go_wp2_with fail
  (with_reducible refine(kW.out w1 HB1.out).mono ?_)
  rintro e w2 ⟨rfl,rfl⟩
  by_cases he:e0=0
  ·subst he
   by_cases oW:id=0
   ·have HM:Hid (aT T ls ls'=(1,T)):=Kv.out 1 (by rw[Fh.out,if_neg (by simp),if_neg (by simp),if_pos oW]) (by decide)
    subst oW
    go_wp2_with fail
    go_ret
    rw[HM.out]
    exact Turn.same HH.out HB1.out rfl
   ·have Xj:(id==0)=false:=by simpa using oW
    have Bh:=Lib.hid oW
    clear oW
    go_wp2_with fail
    (with_reducible refine(qK.out w1 HB1.out).mono ?_)
    rintro e w2 ⟨rfl,hb2⟩
    have HB2:=Lib.hid (HB1.out.trans (hb2.mono HB1.out.size))
    clear hb2
    by_cases hz:z=0
    ·subst hz
     (first|rw[if_pos rfl]|rw[if_pos trivial])
     have hfz:=mg Xi.out.symm
     obtain⟨x,hx,hxk,hnm⟩:=fQ HT.out (p:=ls') (by rw[←Pf.out])
     rw[←Pf.out]at hx hnm
     have hgn:=gW hfz.2 _ hnm
     have jN:=Ic hgn
     obtain⟨y,hy⟩:=Option.isSome_iff_exists.1 (og HQ.out.symm HT.out)
     have l7:=HT.out.ids id y hy
     have hok:aW.ok id:=l6 l7.1 (by omega)
     have HG:Hid (aj id (T.map fun q=>(q.1,ptr (ib q.1)))=some (ptr (ib id))):=by rw[dw,hy];rfl
     have HX:=Lib.hid hx
     have x9:=Lib.hid hxk
     have HY:=Lib.hid hy
     have AX:=Lib.hid hgn
     have Rt:=Lib.hid hfz
     have hA2:=HIT.out w2 HB2.out
     obtain⟨d7,eD⟩:=jD hA2 hx hxk
     have lM:=Lib.hid eD
     have nK:=Lib.hid hA2.map
     have q0:=hA2.cell.1
     obtain⟨_,c1,_⟩:=(hA2.item id y hy).cell
     clear hx hxk hnm hgn hy hfz hA2 eD
     have P8:Hid (gP T ls ls'=if bq T id=2∧iB ls' ls=true then 1 else match aj nm x.names with|some k=>if k=id then 0 else 21|none=>if 8<ls'.length+fV T 8 id then 3 else 0):=by
      rw[Fh.out,if_neg (by simp),if_neg (by simp),if_neg Bh.out,if_neg (by simp),cB HX.out];exact rfl
     by_cases hwk:bq T id=2∧iB ls' ls=true
     ·have HM:Hid (aT T ls ls'=(1,T)):=Kv.out 1 (by rw[P8.out,if_pos hwk]) (by decide)
      have hk2:y.kind=2:=by rw[←bI HY.out];exact hwk.1
      have hW:=hwk.2
      rw[hW]at Ku
      rw[hk2]at c1
      clear hwk hk2 hW
      cases hj:aj nm x.names with
      |none=>
       have qo:Hid (aj nm (bO x)=none):=by rw[dI,hj];rfl
       clear hj
       go_wp2_with (first|(at_lookup;refine aG cK rfl _ _ 107 3 rfl Tryz.underlying107 (Tryz.dP _) rfl lM.out nm rfl jN ?_;rw[qo.out])|(at_lookup;refine aL aW rfl _ _ 94 92 rfl Tryz.underlying94 (Tryz.aU _) rfl nK.out id rfl hok ?_;rw[HG.out]))
       (with_reducible refine(Ku.out w2 HB2.out).mono ?_)
       rintro e w3 ⟨rfl,hb3⟩
       have HB3:=Lib.hid (HB2.out.trans (hb3.mono HB2.out.size))
       clear hb3
       go_wp2_with fail
       go_ret
       rw[HM.out]
       exact Turn.same HH.out HB3.out rfl
      |some j=>
       have qo:Hid (aj nm (bO x)=some (.int .i64 j)):=by rw[dI,hj];rfl
       clear hj
       go_wp2_with (first|(at_lookup;refine aG cK rfl _ _ 107 3 rfl Tryz.underlying107 (Tryz.dP _) rfl lM.out nm rfl jN ?_;rw[qo.out])|(at_lookup;refine aL aW rfl _ _ 94 92 rfl Tryz.underlying94 (Tryz.aU _) rfl nK.out id rfl hok ?_;rw[HG.out]))
       (with_reducible refine(Ku.out w2 HB2.out).mono ?_)
       rintro e w3 ⟨rfl,hb3⟩
       have HB3:=Lib.hid (HB2.out.trans (hb3.mono HB2.out.size))
       clear hb3
       go_wp2_with fail
       go_ret
       rw[HM.out]
       exact Turn.same HH.out HB3.out rfl
     ·have oZ:Hid (gP T ls ls'=match aj nm x.names with|some k=>if k=id then 0 else 21|none=>if 8<ls'.length+fV T 8 id then 3 else 0):=by
       rw[P8.out,if_neg hwk];exact rfl
      by_cases hk2:y.kind=2
      ·have hW:iB ls' ls=false:=by
        cases hw:iB ls' ls with
        |false=>rfl
        |true=>exact absurd ⟨(bI HY.out).trans hk2,hw⟩ hwk
       rw[hW]at Ku
       rw[hk2]at c1
       clear hwk hk2 hW
       cases hj:aj nm x.names with
       |some j=>
        have qo:Hid (aj nm (bO x)=some (.int .i64 j)):=by rw[dI,hj];rfl
        have Kw:Hid ((aj nm x.names).isSome=true):=by rw[hj];exact rfl
        rw[hj]at oZ
        clear hj
        by_cases hji:j=id
        ·rw[hji]at qo oZ
         clear hji
         have HM:Hid (aT T ls ls'=(0,T)):=by
          unfold aT
          rw[←Pf.out,cB HX.out,Kw.out,oZ.out]
          simp only[if_pos,if_neg,and_false,Bool.true_eq_false,if_false]
          first|exact rfl|exact trivial
         go_wp2_with (first|(at_lookup;refine aG cK rfl _ _ 107 3 rfl Tryz.underlying107 (Tryz.dP _) rfl lM.out nm rfl jN ?_;rw[qo.out])|(at_lookup;refine aL aW rfl _ _ 94 92 rfl Tryz.underlying94 (Tryz.aU _) rfl nK.out id rfl hok ?_;rw[HG.out]))
         (with_reducible refine(Ku.out w2 HB2.out).mono ?_)
         rintro e w3 ⟨rfl,hb3⟩
         have HB3:=Lib.hid (HB2.out.trans (hb3.mono HB2.out.size))
         clear hb3
         go_wp2_with fail
         go_ret
         rw[HM.out]
         exact Turn.same HH.out HB3.out rfl
        ·have hne:(j==id)=false:=by simpa using hji
         have HM:Hid (aT T ls ls'=(21,T)):=Kv.out 21 (by rw[oZ.out];simp only[if_neg hji]) (by decide)
         clear hji
         go_wp2_with (first|(at_lookup;refine aG cK rfl _ _ 107 3 rfl Tryz.underlying107 (Tryz.dP _) rfl lM.out nm rfl jN ?_;rw[qo.out])|(at_lookup;refine aL aW rfl _ _ 94 92 rfl Tryz.underlying94 (Tryz.aU _) rfl nK.out id rfl hok ?_;rw[HG.out]))
         (with_reducible refine(Ku.out w2 HB2.out).mono ?_)
         rintro e w3 ⟨rfl,hb3⟩
         have HB3:=Lib.hid (HB2.out.trans (hb3.mono HB2.out.size))
         clear hb3
         go_wp2_with fail
         go_ret
         rw[HM.out]
         exact Turn.same HH.out HB3.out rfl
       |none=>
        have qo:Hid (aj nm (bO x)=none):=by rw[dI,hj];rfl
        have HJ:=Lib.hid hj
        rw[hj]at oZ
        clear hj
        have IG:=lK Rt.out.2
        have hdd:=IE.out id
        have Ky:=Lib.hid (Vh.out id (by rw[HY.out];rfl))
        unfold rz at Ky
        generalize fV T 8 id=dd at oZ Ky hdd
        rw[hl']at oZ IG
        have e1:IntKind.i64.wrap ((n':Int)+(dd:Int))=(n':Int)+(dd:Int):=IntWalk.i64_in _ (by omega)
        by_cases hdp:8<n'+dd
        ·have HM:Hid (aT T ls ls'=(3,T)):=Kv.out 3 (by rw[oZ.out];simp only[if_pos hdp]) (by decide)
         have hd1:decide ((8:Int)<(n':Int)+(dd:Int))=true:=by simp only[decide_eq_true_eq];omega
         clear hdp
         go_wp2_with (first|(at_lookup;refine aG cK rfl _ _ 107 3 rfl Tryz.underlying107 (Tryz.dP _) rfl lM.out nm rfl jN ?_;rw[qo.out])|(at_lookup;refine aL aW rfl _ _ 94 92 rfl Tryz.underlying94 (Tryz.aU _) rfl nK.out id rfl hok ?_;rw[HG.out]))
         (with_reducible refine(Ku.out w2 HB2.out).mono ?_)
         rintro e w3 ⟨rfl,hb3⟩
         have HB3:=Lib.hid (HB2.out.trans (hb3.mono HB2.out.size))
         clear hb3
         go_wp2_with fail
         (with_reducible refine(Ky.out w3 HB3.out).mono ?_)
         rintro e w4 ⟨rfl,hb4⟩
         have dX:=Lib.hid (HB3.out.trans (hb4.mono HB3.out.size))
         clear hb4
         go_wp2_with fail
         go_ret
         rw[HM.out]
         exact Turn.same HH.out dX.out rfl
        ·have hd1:decide ((8:Int)<(n':Int)+(dd:Int))=false:=by simp only[decide_eq_false_iff_not];omega
         have hpn:ls≠[]:=fun e=>by
          have h1:id=0:=congrArg Prod.fst (HQ.out.trans (by rw[e]<;>exact(rfl:aC T 0 []=(0,0))))
          exact Bh.out h1
         obtain⟨d1,x1,n1,ep,-,hx1,Ai,hn1,BG,-⟩:=bS HQ.out.symm hpn
         have II:=Ic (gW Rt.out.1 _ BG)
         have Sl:=Lib.hid (Vg.out d1 n1 ep)
         have EG:=Lib.hid hx1
         have Dp:=Lib.hid Ai
         have Pg:=Lib.hid hn1
         have HM:Hid (aT T ls ls'=(0,setName (aA T d1 n1) d nm id)):=by
          have h0:gP T ls ls'=0:=by rw[oZ.out];simp only[if_neg hdp]
          have h1:(aj nm (aO T d)).isSome=false:=by rw[cB HX.out,HJ.out];rfl
          unfold aT nG
          rw[←Pf.out,←HQ.out,ep,h0]
          simp only[h1,and_self,if_true]
          first|exact rfl|exact trivial
         have hc3:∃x3,aj d (aA T d1 n1)=some x3∧x3.kind=2∧aj nm x3.names=none:=by
          unfold aA
          rw[aQ]
          by_cases hd:d=d1
          ·subst hd
           have h2:=EG.out
           rw[HX.out]at h2;cases h2
           rw[if_pos rfl,HX.out]
           refine⟨_,rfl,x9.out,?_⟩
           show aj nm (bg n1 x.names)=none
           rw[eH]
           split
           ·rfl
           ·exact HJ.out
          ·rw[if_neg hd];exact⟨x,HX.out,x9.out,HJ.out⟩
         obtain⟨x3,hx3,IJ,-⟩:=hc3
         have NH:=Lib.hid hx3
         have IK:=Lib.hid IJ
         have rZ:(bO x3).length<maxLen:=by
          have h1:=(HT.out.tovw.cut (n:=n1) EG.out Dp.out)
          have h2:x3.names.length≤x.names.length:=by
           have h3:=NH.out
           unfold aA at h3
           rw[aQ,HX.out]at h3
           split at h3
           ·simp only[Option.map_some,Option.some.injEq]at h3
            rw[←h3];exact List.length_filter_le _ _
           ·simp only[Option.some.injEq]at h3
            rw[h3];exact Nat.le_refl _
          have h4:=HT.out.few HX.out
          unfold bO maxLen;rw[List.length_map];omega
         have M7:=Lib.hid rZ
         clear hdp hpn ep hx1 Ai hn1 BG hx3 IJ rZ
         go_wp2_with (first|(at_lookup;refine aG cK rfl _ _ 107 3 rfl Tryz.underlying107 (Tryz.dP _) rfl lM.out nm rfl jN ?_;rw[qo.out])|(at_lookup;refine aL aW rfl _ _ 94 92 rfl Tryz.underlying94 (Tryz.aU _) rfl nK.out id rfl hok ?_;rw[HG.out]))
         (with_reducible refine(Ku.out w2 HB2.out).mono ?_)
         rintro e w3 ⟨rfl,hb3⟩
         have HB3:=Lib.hid (HB2.out.trans (hb3.mono HB2.out.size))
         clear hb3
         go_wp2_with fail
         (with_reducible refine(Ky.out w3 HB3.out).mono ?_)
         rintro e w4 ⟨rfl,hb4⟩
         have dX:=Lib.hid (HB3.out.trans (hb4.mono HB3.out.size))
         clear hb4
         go_wp2_with fail
         (with_reducible refine(Sl.out w4 dX.out).mono ?_)
         rintro e w5 ⟨rfl,hb5⟩
         have iR:=Lib.hid (dX.out.trans (hb5.mono dX.out.size))
         clear hb5
         have Ay:=HIT.out w5 iR.out
         obtain⟨d8,sI⟩:=jD Ay EG.out Dp.out
         have Nb:=Lib.hid Ay
         have NI:=Lib.hid sI
         clear Ay sI
         have Ab:Hid (∀w6,MapAt cK w6 (nb d1) (bg n1 (bO x1))→w5.mapTurned w6 (nb d1)→(aJ g D w6 p mb ib nb (aA T d1 n1)∧Keeps (fun b=>g b≠ .none) w5 w6)∧w6.cell? ⟨ib d,7,none⟩=some (.map (some (nb d)))∧MapAt cK w6 (nb d) (bO x3)):=fun w6 hM Kh=>by
          have h3:=Aa Nb.out EG.out Dp.out hM Kh
          exact⟨h3,jD h3.1 NH.out IK.out⟩
         go_wp2_with (first|(at_delete;refine je cK rfl _ _ 107 3 rfl Tryz.underlying107 rfl NI.out n1 rfl II ?_;intro w6 qD qY;obtain⟨P9,d9,IL⟩:=Ab.out w6 qD qY;have Sm:=Lib.hid P9;have NJ:=Lib.hid IL;clear P9 qD qY IL)|(at_mapUpdate;refine gH cK rfl _ _ _ 107 3 rfl Tryz.underlying107 rfl NJ.out M7.out nm (.int .i64 id) rfl rfl jN ?_;intro w7 P_ Qa;have JU:=Lib.hid P_;have Kz:=Lib.hid Qa;clear P_ Qa))
         go_ret
         rw[HM.out]
         exact BF HH.out iR.out Sm.out NH.out IK.out JU.out Kz.out
      ·have hkk:(y.kind==2)=false:=by simpa using hk2
       clear hwk hk2
       cases hj:aj nm x.names with
       |some j=>
        have qo:Hid (aj nm (bO x)=some (.int .i64 j)):=by rw[dI,hj];rfl
        have Kw:Hid ((aj nm x.names).isSome=true):=by rw[hj];exact rfl
        rw[hj]at oZ
        clear hj
        by_cases hji:j=id
        ·rw[hji]at qo oZ
         clear hji
         have HM:Hid (aT T ls ls'=(0,T)):=by
          unfold aT
          rw[←Pf.out,cB HX.out,Kw.out,oZ.out]
          simp only[if_pos,if_neg,and_false,Bool.true_eq_false,if_false]
          first|exact rfl|exact trivial
         go_wp2_with (first|(at_lookup;refine aG cK rfl _ _ 107 3 rfl Tryz.underlying107 (Tryz.dP _) rfl lM.out nm rfl jN ?_;rw[qo.out])|(at_lookup;refine aL aW rfl _ _ 94 92 rfl Tryz.underlying94 (Tryz.aU _) rfl nK.out id rfl hok ?_;rw[HG.out]))
         go_ret
         rw[HM.out]
         exact Turn.same HH.out HB2.out rfl
        ·have hne:(j==id)=false:=by simpa using hji
         have HM:Hid (aT T ls ls'=(21,T)):=Kv.out 21 (by rw[oZ.out];simp only[if_neg hji]) (by decide)
         clear hji
         go_wp2_with (first|(at_lookup;refine aG cK rfl _ _ 107 3 rfl Tryz.underlying107 (Tryz.dP _) rfl lM.out nm rfl jN ?_;rw[qo.out])|(at_lookup;refine aL aW rfl _ _ 94 92 rfl Tryz.underlying94 (Tryz.aU _) rfl nK.out id rfl hok ?_;rw[HG.out]))
         go_ret
         rw[HM.out]
         exact Turn.same HH.out HB2.out rfl
       |none=>
        have qo:Hid (aj nm (bO x)=none):=by rw[dI,hj];rfl
        have HJ:=Lib.hid hj
        rw[hj]at oZ
        clear hj
        have IG:=lK Rt.out.2
        have hdd:=IE.out id
        have Ky:=Lib.hid (Vh.out id (by rw[HY.out];rfl))
        unfold rz at Ky
        generalize fV T 8 id=dd at oZ Ky hdd
        rw[hl']at oZ IG
        have e1:IntKind.i64.wrap ((n':Int)+(dd:Int))=(n':Int)+(dd:Int):=IntWalk.i64_in _ (by omega)
        by_cases hdp:8<n'+dd
        ·have HM:Hid (aT T ls ls'=(3,T)):=Kv.out 3 (by rw[oZ.out];simp only[if_pos hdp]) (by decide)
         have hd1:decide ((8:Int)<(n':Int)+(dd:Int))=true:=by simp only[decide_eq_true_eq];omega
         clear hdp
         go_wp2_with (first|(at_lookup;refine aG cK rfl _ _ 107 3 rfl Tryz.underlying107 (Tryz.dP _) rfl lM.out nm rfl jN ?_;rw[qo.out])|(at_lookup;refine aL aW rfl _ _ 94 92 rfl Tryz.underlying94 (Tryz.aU _) rfl nK.out id rfl hok ?_;rw[HG.out]))
         (with_reducible refine(Ky.out w2 HB2.out).mono ?_)
         rintro e w4 ⟨rfl,hb4⟩
         have dX:=Lib.hid (HB2.out.trans (hb4.mono HB2.out.size))
         clear hb4
         go_wp2_with fail
         go_ret
         rw[HM.out]
         exact Turn.same HH.out dX.out rfl
        ·have hd1:decide ((8:Int)<(n':Int)+(dd:Int))=false:=by simp only[decide_eq_false_iff_not];omega
         have hpn:ls≠[]:=fun e=>by
          have h1:id=0:=congrArg Prod.fst (HQ.out.trans (by rw[e]<;>exact(rfl:aC T 0 []=(0,0))))
          exact Bh.out h1
         obtain⟨d1,x1,n1,ep,-,hx1,Ai,hn1,BG,-⟩:=bS HQ.out.symm hpn
         have II:=Ic (gW Rt.out.1 _ BG)
         have Sl:=Lib.hid (Vg.out d1 n1 ep)
         have EG:=Lib.hid hx1
         have Dp:=Lib.hid Ai
         have Pg:=Lib.hid hn1
         have HM:Hid (aT T ls ls'=(0,setName (aA T d1 n1) d nm id)):=by
          have h0:gP T ls ls'=0:=by rw[oZ.out];simp only[if_neg hdp]
          have h1:(aj nm (aO T d)).isSome=false:=by rw[cB HX.out,HJ.out];rfl
          unfold aT nG
          rw[←Pf.out,←HQ.out,ep,h0]
          simp only[h1,and_self,if_true]
          first|exact rfl|exact trivial
         have hc3:∃x3,aj d (aA T d1 n1)=some x3∧x3.kind=2∧aj nm x3.names=none:=by
          unfold aA
          rw[aQ]
          by_cases hd:d=d1
          ·subst hd
           have h2:=EG.out
           rw[HX.out]at h2;cases h2
           rw[if_pos rfl,HX.out]
           refine⟨_,rfl,x9.out,?_⟩
           show aj nm (bg n1 x.names)=none
           rw[eH]
           split
           ·rfl
           ·exact HJ.out
          ·rw[if_neg hd];exact⟨x,HX.out,x9.out,HJ.out⟩
         obtain⟨x3,hx3,IJ,-⟩:=hc3
         have NH:=Lib.hid hx3
         have IK:=Lib.hid IJ
         have rZ:(bO x3).length<maxLen:=by
          have h1:=(HT.out.tovw.cut (n:=n1) EG.out Dp.out)
          have h2:x3.names.length≤x.names.length:=by
           have h3:=NH.out
           unfold aA at h3
           rw[aQ,HX.out]at h3
           split at h3
           ·simp only[Option.map_some,Option.some.injEq]at h3
            rw[←h3];exact List.length_filter_le _ _
           ·simp only[Option.some.injEq]at h3
            rw[h3];exact Nat.le_refl _
          have h4:=HT.out.few HX.out
          unfold bO maxLen;rw[List.length_map];omega
         have M7:=Lib.hid rZ
         clear hdp hpn ep hx1 Ai hn1 BG hx3 IJ rZ
         go_wp2_with (first|(at_lookup;refine aG cK rfl _ _ 107 3 rfl Tryz.underlying107 (Tryz.dP _) rfl lM.out nm rfl jN ?_;rw[qo.out])|(at_lookup;refine aL aW rfl _ _ 94 92 rfl Tryz.underlying94 (Tryz.aU _) rfl nK.out id rfl hok ?_;rw[HG.out]))
         (with_reducible refine(Ky.out w2 HB2.out).mono ?_)
         rintro e w4 ⟨rfl,hb4⟩
         have dX:=Lib.hid (HB2.out.trans (hb4.mono HB2.out.size))
         clear hb4
         go_wp2_with fail
         (with_reducible refine(Sl.out w4 dX.out).mono ?_)
         rintro e w5 ⟨rfl,hb5⟩
         have iR:=Lib.hid (dX.out.trans (hb5.mono dX.out.size))
         clear hb5
         have Ay:=HIT.out w5 iR.out
         obtain⟨d8,sI⟩:=jD Ay EG.out Dp.out
         have Nb:=Lib.hid Ay
         have NI:=Lib.hid sI
         clear Ay sI
         have Ab:Hid (∀w6,MapAt cK w6 (nb d1) (bg n1 (bO x1))→w5.mapTurned w6 (nb d1)→(aJ g D w6 p mb ib nb (aA T d1 n1)∧Keeps (fun b=>g b≠ .none) w5 w6)∧w6.cell? ⟨ib d,7,none⟩=some (.map (some (nb d)))∧MapAt cK w6 (nb d) (bO x3)):=fun w6 hM Kh=>by
          have h3:=Aa Nb.out EG.out Dp.out hM Kh
          exact⟨h3,jD h3.1 NH.out IK.out⟩
         go_wp2_with (first|(at_delete;refine je cK rfl _ _ 107 3 rfl Tryz.underlying107 rfl NI.out n1 rfl II ?_;intro w6 qD qY;obtain⟨P9,d9,IL⟩:=Ab.out w6 qD qY;have Sm:=Lib.hid P9;have NJ:=Lib.hid IL;clear P9 qD qY IL)|(at_mapUpdate;refine gH cK rfl _ _ _ 107 3 rfl Tryz.underlying107 rfl NJ.out M7.out nm (.int .i64 id) rfl rfl jN ?_;intro w7 P_ Qa;have JU:=Lib.hid P_;have Kz:=Lib.hid Qa;clear P_ Qa))
         go_ret
         rw[HM.out]
         exact BF HH.out iR.out Sm.out NH.out IK.out JU.out Kz.out
    ·have HM:Hid (aT T ls ls'=(z,T)):=Kv.out z (by rw[Fh.out,if_neg (by simp),if_neg (by simp),if_neg Bh.out,if_pos hz]) hz
     have hne:(z==0)=false:=by simpa using hz
     have hne2:(z !=0)=true:=by simpa using hz
     rw[if_neg hz]
     clear hz
     go_wp2_with fail
     go_ret
     rw[HM.out]
     exact Turn.same HH.out HB2.out rfl
  ·have HM:Hid (aT T ls ls'=(e0,T)):=Kv.out e0 (by rw[Fh.out,if_neg (by simp),if_pos he]) he
   have hne:(e0==0)=false:=by simpa using he
   have hne2:(e0 !=0)=true:=by simpa using he
   clear he
   go_wp2_with fail
   go_ret
   rw[HM.out]
   exact Turn.same HH.out HB1.out rfl
 ·have HM:Hid (aT T ls ls'=(f,T)):=Kv.out f (by rw[Fh.out,if_pos hf]) hf
  have hne:(f==0)=false:=by simpa using hf
  have hne2:(f !=0)=true:=by simpa using hf
  clear hf
  go_wp2_with fail
  go_ret
  rw[HM.out]
  exact Turn.same HH.out HB1.out rfl
end
structure pV (T:aF):Prop where
 sorted:aI fT T
 names:∀q∈T,aI bytesBefore q.2.names
 len:T.length≤64
 few:(aV T).length≤5000
theorem pV.of {T:aF} (h:dG T):pV T:=⟨h.sorted,fun q hq=>(h.each _ _ (aY dB h.sorted hq)).sorted,h.len,by have:=gQ h;omega⟩
theorem sJ {T:aF} {d:Int} {f:bF→bF} {q:Int×bF} (h:q∈aX d f T):q∈T∨∃p∈T,p.1=d∧q=(p.1,f p.2):=by
 unfold aX at h
 obtain⟨p,hp,e⟩:=List.mem_map.1 h
 by_cases hd:p.1=d
 ·rw[if_pos hd]at e
  exact .inr ⟨p,hp,hd,e.symm⟩
 ·rw[if_neg hd]at e
  exact .inl (e▸hp)
theorem pV.cut {T:aF} (h:pV T) (d:Int) (n:Nm):pV (aA T d n):=by
 refine⟨jB _ _ h.sorted,fun q hq=> ?_,by unfold aA;rw[fP];exact h.len,?_⟩
 ·rcases sJ hq with h1|⟨p,hp,_,rfl⟩
  ·exact h.names q h1
  ·exact(h.names p hp).bg _
 ·rw[←wG]
  exact Nat.le_trans (List.length_filter_le _ _) h.few
theorem pV.aX {T:aF} (h:pV T) (d:Int) {f:bF→bF} (hf:∀x,(f x).names=x.names):pV (Go.Proofs.YtohpcppeajijnaaGreat.aX d f T):=by
 refine⟨jB _ _ h.sorted,fun q hq=> ?_,by rw[fP];exact h.len,by rw[jZ hf];exact h.few⟩
 rcases sJ hq with h1|⟨p,hp,_,rfl⟩
 ·exact h.names q h1
 ·show aI bytesBefore (f p.2).names
  rw[hf];exact h.names p hp
theorem BH (E:List jc) (d:Int) (nm:Nm) (id:Int):(mY E d nm id).length=E.length+1:=by
 unfold mY
 have:=congrArg List.length (List.takeWhile_append_dropWhile (p:=jF d nm) (l:=E))
 rw[List.length_append]at this
 rw[List.length_append,List.length_cons]
 omega
theorem pV.get {T:aF} (h:pV T) {d:Int} {x:bF} (hx:aj d T=some x):aI bytesBefore x.names:=h.names (d,x) (bR hx)
theorem sK {T:aF} (h:pV T) {id j:Int} {x:bF} {nm:Nm} (hx:aj id T=some x) (hn:aj nm x.names=some j):∃k:Nat,mX (fZ id nm) (aV T)=k∧(aV T)[k]? =some (id,nm,j):=by
 have hmem:((id,nm,j):jc)∈aV T:=(jO h.sorted).2 ⟨x,hx,bR hn⟩
 cases hf:(aV T).findIdx? (fZ id nm)with
 |none=>
  rw[List.findIdx?_eq_none_iff]at hf
  have:=hf _ hmem
  simp[fZ]at this
 |some k=>
  refine⟨k,by simp[mX,hf],?_⟩
  rw[List.findIdx?_eq_some_iff_getElem]at hf
  obtain⟨hk,hp,_⟩:=hf
  have h1:(aV T)[k]? =some (aV T)[k]:=List.getElem?_eq_getElem hk
  obtain⟨e,he⟩:∃e,e=(aV T)[k]:=⟨_,rfl⟩
  have hm:=List.getElem_mem hk
  rw[←he]at h1 hp hm
  simp only[fZ,decide_eq_true_eq]at hp
  obtain⟨y,hy,hm2⟩:=(jO h.sorted).1 hm
  rw[hp.1,hx]at hy
  cases hy
  have h3:=aY oU (h.get hx) hm2
  rw[hp.2,hn]at h3
  rw[h1]
  congr 1
  exact Prod.ext hp.1 (Prod.ext hp.2 (Option.some.inj h3).symm)
theorem pV.put {T:aF} (h:pV T) {d:Int} {x:bF} {n:Nm} (hx:aj d T=some x) (hn:aj n x.names=none) (hf:(aV T).length≤4096) (id:Int):pV (setName T d n id):=by
 refine⟨jB _ _ h.sorted,fun q hq=> ?_,by unfold setName;rw[fP];exact h.len,?_⟩
 ·rcases sJ hq with h1|⟨p,hp,_,rfl⟩
  ·exact h.names q h1
  ·exact(h.names p hp).bT oU _ _
 ·rw[←wF h.sorted hx (h.get hx) hn,BH]
  omega
theorem dh.val {F:Nat→Prop} {w w':World} {r:Nat} {T:aF} {D:List (List UInt8)} {E:List jc} {v:Value} {e:Ending} (h:dh F w r T D E v e w') (v2:Value):dh F w r T D E v2 (.returned v2) w':=⟨rfl,h.2.1,h.2.2⟩
section
variable {F:Nat→Prop} {r:Nat} {T:aF}
theorem vJ (d:Int) (nm:Nm) (j:Int) (x:bF) (w:World) (h:gX F w r T) (hL:pV T) (hx:aj d T=some x) (hn:aj nm x.names=some j):
  ∃k:Nat,mX (fZ d nm) (aV T)=k∧Calls Tryz.prog 69 #[ptr r, .int .i64 k] w (bC F w r (aA T d nm) (.tuple #[])):=by
 obtain⟨k,hk,he⟩:=sK hL hx hn
 refine⟨k,hk,(EF k w h (List.getElem?_eq_some_iff.1 he).1 (by have:=hL.few;omega)).mono fun e w' ht=> ?_⟩
 have h1:(aV T).take k++(aV T).drop (k+1)=aV (aA T d nm):=by
  rw[rC (p:=fZ d nm) he (by simp[fZ]) (Dj hL.sorted hL.names d nm),wG]
 rw[h1]at ht
 refine⟨ht.1,ht.2.1,?_⟩
 have:=ht.2.2.names (T':=aA T d nm) (fP _ _ _) (rD (id:=d) (f:=fun x=>{x with names:=bg nm x.names}) (fun _=>rfl) T)
 unfold aA at this⊢
 rw[lT (fun _=>by exact rfl)]
 exact this
theorem sM (d:Int) (nm:Nm) (id:Int) (x:bF) (w:World) (h:gX F w r T) (hL:pV T) (hx:aj d T=some x) (hn:aj nm x.names=none):
  Calls Tryz.prog 65 #[ptr r, .int .i64 d, .string (strOf nm), .int .i64 id] w (bC F w r (setName T d nm id) (.tuple #[])):=by
 refine(Kt d nm id w h (by have:=hL.few;omega)).mono fun e w' ht=> ?_
 rw[wF hL.sorted hx (hL.get hx) hn]at ht
 refine⟨ht.1,ht.2.1,?_⟩
 have:=ht.2.2.names (T':=setName T d nm id) (fP _ _ _) (rD (id:=d) (f:=fun x=>{x with names:=bT bytesBefore nm id x.names}) (fun _=>rfl) T)
 unfold setName at this⊢
 rw[lT (fun _=>by exact rfl)]
 exact this
theorem qE (id Dn:Int) (x:bF) (w:World) (h:gX F w r T) (hL:pV T) (hx:aj id T=some x) (hb0: -1≤Dn∧Dn≤1) (hl0:0≤x.links∧x.links≤64):
  Calls Tryz.prog 74 #[ptr r, .int .i64 id, .int .i64 Dn] w (bC F w r (aX id (fun x=>{x with links:=x.links+Dn}) T) (.tuple #[])):=by
 obtain⟨k,hk,hq⟩:=iM hL.sorted hx
 refine(Dm id Dn k (id,x) w h hL.len hk hq hb0 hl0).mono fun e w' ht=> ?_
 have h1:=kZ (f:=fun x:bF=>{x with links:=x.links+Dn}) hL.sorted hq
 simp only at h1 ht
 rw[h1]at ht
 refine⟨ht.1,ht.2.1,?_⟩
 rw[lT (fun _=>by exact rfl),jZ (fun _=>by exact rfl)]
 exact ht.2.2
theorem pW (id:Int) (x:bF) (w:World) (h:gX F w r T) (hs:aI fT T) (hl:T.length≤64) (hx:aj id T=some x) (hn:x.names=[]):
  Calls Tryz.prog 70 #[ptr r, .int .i64 id] w (bC F w r (bg id T) (.tuple #[])):=by
 obtain⟨k,hk,hq⟩:=iM hs hx
 refine(FM id k w h hl (by rw[List.length_map]) hk (List.getElem?_eq_some_iff.1 hq).1).mono fun e w' ht=> ?_
 have h1:=Ni hs hq
 simp only at h1
 rw[←List.map_take,←List.map_drop,←List.map_append,h1]at ht
 refine⟨ht.1,ht.2.1,?_⟩
 rw[Bu (fun q hq2 hid=>by
  have:=aY dB hs hq2
  rw[hid,hx]at this
  cases this
  exact hn)]
 exact ht.2.2
end
end Go.Proofs.YtohpcppeajijnaaGreat
