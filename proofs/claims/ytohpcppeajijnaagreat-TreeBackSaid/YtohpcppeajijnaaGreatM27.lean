/- The reference: Rename. -/
import Derived.Test.YtohpcppeajijnaaGreatM26
namespace Go.Proofs.YtohpcppeajijnaaGreat
open Go.ChangeShapes Go.WideShapes Go.ChangeAt Go.RowKit
set_option linter.unusedVariables false
set_option linter.unusedSimpArgs false
theorem iy {T:aF} {p q:List Nm} {v:Int} (h:gP T p q=v) (hv:v≠0):aT T p q=(v,T):=by
 unfold aT
 rw[h,if_neg (fun h=>hv h.1)]
section
variable {F:Nat→Prop} {r:Nat} {T:aF}
set_option maxRecDepth 100000 in
set_option maxHeartbeats 16000000 in
theorem uR {S S':Nat→Prop} (a:Option Addr) (n c:Nat) (ls:List Nm) (a':Option Addr) (n' c':Nat) (ls':List Nm) (w:World) (h:gX F w r T) (hO:fU T) (hS:aH S w a n (ls.map strOf)) (hS':aH S' w a' n' (ls'.map strOf)) (hc:n≤c) (jS:n≤1000000) (hc':n'≤c') (uj:n'≤1000000):
  Calls Tryz.prog 94 #[ptr r, .slice a n c, .slice a' n' c'] w (bC F w r (aT T ls ls').2 (.int .i64 (aT T ls ls').1)):=by
 have hT:=hO.1
 have hE:(aV T).length≤1000000:=by have:=gQ hT;omega
 have hln:ls.length=n:=by have:=hS.length;simpa using this
 have rF:ls'.length=n':=by have:=hS'.length;simpa using this
 have H1:=Lib.hid (uN a n c ls a' n' c' ls' w hS hS')
 have H2:=Lib.hid (fun w1 (hb:Below w.heap.size w w1)=>qA a n c ls w1 (h.below hb (Nat.le_refl _)) hT hE (hS.below hb (Nat.le_refl _)))
 have H3:=Lib.hid (fun w1 (hb:Below w.heap.size w w1)=>j3 a' n' c' ls' w1 (h.below hb (Nat.le_refl _)) hT hE (hS'.below hb (Nat.le_refl _)) hc' uj)
 have CJ:=Lib.hid (fun w1 (hb:Below w.heap.size w w1)=>j3 a n c ls w1 (h.below hb (Nat.le_refl _)) hT hE (hS.below hb (Nat.le_refl _)) hc jS)
 have H4:=Lib.hid (fun w1 (hb:Below w.heap.size w w1) id=>iV id w1 (h.below hb (Nat.le_refl _)) hT.tovw)
 have H5:=Lib.hid (fun w1 (hb:Below w.heap.size w w1) d nm=>iN d nm w1 (h.below hb (Nat.le_refl _)) hE)
 have HW:=Lib.hid (fun w1 (hb:Below w.heap.size w w1)=>Bt a' a n' c' n c (ls'.map strOf) (ls.map strOf) w1 (hS'.below hb (Nat.le_refl _)) (hS.below hb (Nat.le_refl _)))
 rw[uP]at HW
 have HH:=Lib.hid h
 have HT:=Lib.hid hT
 have hr0:=h.low r h.own
 by_cases h0:iw ls ls'=0
 ·rw[h0]at H1
  have YE:n'≤8:=by have:=lK (mg h0).2;omega
  by_cases h1:(aC T 0 ls).2=0
  ·have hl2:aC T 0 ls=((aC T 0 ls).1,0):=Prod.ext rfl h1
   obtain⟨y,hy⟩:=Option.isSome_iff_exists.1 (fA hT ls 0 (dU hT) h1)
   obtain⟨id,hid⟩:∃id,id=(aC T 0 ls).1:=⟨_,rfl⟩
   rw[←hid]at hl2 hy
   rw[hl2]at H2
   simp only at H2
   have hre:gP T ls ls'=if id=0 then 1 else if (aB T ls').2.2≠0 then(aB T ls').2.2 else if y.kind=2∧iB ls' ls=true then 1 else match aj (aB T ls').2.1 (aO T (aB T ls').1)with|some k=>if k=id then 0 else 21|none=>if 8<ls'.length+fV T 8 id then 3 else 0:=by
    unfold gP
    rw[h0,if_neg (by simp),h1,if_neg (by simp),←hid,bI hy]
    rfl
   clear h0 h1
   by_cases hp0:ls=[]
   ·have oW:id=0:=by rw[hid,hp0];rfl
    rw[if_pos oW]at hre
    have hn0:n=0:=by rw[←hln,hp0];rfl
    have HQ:=Lib.hid (iy hre (by omega))
    subst hn0
    clear h hO hT hS hS' hE hl2 hid hy hre hp0 oW hln rF hc CJ
    go_enter Tryz.func94,Tryz.ntmps94
    go_wp2_with fail
    (with_reducible refine H1.out.mono ?_)
    rintro e w1 ⟨rfl,hb1⟩
    have HB1:=Lib.hid hb1
    clear hb1
    go_wp2_with fail
    (with_reducible refine(H2.out w1 HB1.out).mono ?_)
    rintro e w2 ⟨rfl,hb2⟩
    have HB2:=Lib.hid (HB1.out.trans (hb2.mono HB1.out.size))
    clear hb2
    go_wp2_with fail
    go_ret
    exact bC.no HH.out HB2.out HQ.out
   ·have oW:id≠0:=fun e=>by
     obtain⟨d,x,n1,_,_,hx,_,hxn,_,-⟩:=bS hl2 hp0
     exact(hT.leads d x hx _ (bR hxn)).2 e
    rw[if_neg oW]at hre
    have hn0:((n:Int)==0)=false:=by
     have:ls.length≠0:=fun e=>hp0 (List.eq_nil_of_length_eq_zero e)
     simp;omega
    clear hid oW
    by_cases h3:(aB T ls').2.2=0
    ·have hpl:aB T ls'=((aB T ls').1,(aB T ls').2.1,0):=Prod.ext rfl (Prod.ext rfl h3)
     obtain⟨x2,hx2,vC,-⟩:=fQ hT h3
     rw[if_neg (by rw[h3];simp)]at hre
     obtain⟨d2,hd2⟩:∃d2,d2=(aB T ls').1:=⟨_,rfl⟩
     obtain⟨n2,hn2⟩:∃n2,n2=(aB T ls').2.1:=⟨_,rfl⟩
     rw[←hd2,←hn2]at hpl hre
     rw[←hd2]at hx2
     rw[hpl]at H3
     simp only at H3
     rw[cB hx2]at hre
     have tF:=Lib.hid (fun w1 hb=>H4.out w1 hb id)
     have hnd:iI T id=jg id y:=by unfold iI;rw[hy]
     rw[hnd]at tF
     unfold jg at tF
     have qZ:=Lib.hid (fun w1 hb=>H5.out w1 hb d2 n2)
     have SA:Hid (∀w1,Below w.heap.size w w1→BK r w1 id (fV T 8 id)):=fun w1 hb=>zo hT 8 id w1 (h.below hb (Nat.le_refl _)) (by rw[hy];rfl) (hO.Da id) (by omega)
     have JR:fV T 8 id≤8:=(hO.Da id).le
     clear h3 hd2 hn2 hnd
     by_cases hk:y.kind=2
     ·rw[hk]at tF
      cases hw:iB ls' ls with
      |true=>
       rw[hw]at HW
       rw[if_pos ⟨hk,hw⟩]at hre
       have HQ:=Lib.hid (iy hre (by omega))
       clear hk hw hp0 CJ
       clear h hO hT hS hS' hE H4 H5 hl2 hy hre hln rF hpl hx2 vC
       go_enter Tryz.func94,Tryz.ntmps94
       go_wp2_with fail
       (with_reducible refine H1.out.mono ?_)
       rintro e w1 ⟨rfl,hb1⟩
       have HB1:=Lib.hid hb1
       clear hb1
       go_wp2_with fail
       (with_reducible refine(H2.out w1 HB1.out).mono ?_)
       rintro e w2 ⟨rfl,hb2⟩
       have HB2:=Lib.hid (HB1.out.trans (hb2.mono HB1.out.size))
       clear hb2
       go_wp2_with fail
       (with_reducible refine(H3.out w2 HB2.out).mono ?_)
       rintro e w3 ⟨rfl,hb3⟩
       have HB3:=Lib.hid (HB2.out.trans (hb3.mono HB2.out.size))
       clear hb3
       go_wp2_with fail
       (with_reducible refine(tF.out w3 HB3.out).mono ?_)
       rintro e w4 ⟨rfl,hb4⟩
       have dX:=Lib.hid (HB3.out.trans (hb4.mono HB3.out.size))
       have wO:=dX.out.size
       clear hb4
       go_wp2_with fail
       (with_reducible refine(HW.out _ (dX.out.trans ((wall w4 _).mono dX.out.size))).mono ?_)
       rintro e w5 ⟨rfl,hb5⟩
       have iR:=Lib.hid ((dX.out.trans ((wall w4 _).mono dX.out.size)).trans (hb5.mono (by simp;omega)))
       have q1:w5.cell? ⟨w4.heap.size,1,none⟩=some (.int .i64 2):=by rw[hb5.cell (p:=⟨w4.heap.size,1,none⟩) (by simp)];exact eU w4 _ _ 1
       have CG:w4.heap.size<w5.heap.size:=by have:=hb5.size;simp at this;omega
       clear hb5
       go_wp2_with fail
       go_ret
       exact bC.no HH.out iR.out HQ.out
      |false=>
       rw[hw]at HW
       rw[if_neg (by rw[hw];simp)]at hre
       clear hw
       cases hn:aj n2 x2.names with
       |some j=>
        obtain⟨m,hm1,hm2⟩:=nH HT.out.tovw hx2 hn
        rw[hm1]at qZ
        rw[hn]at hre
        simp only at hre
        have m0:¬(m:Int)<0:=by omega
        have m1:(0:Int)≤m:=by omega
        have KJ:=Lib.hid (fun w1 (hb:Below w.heap.size w w1)=>zq d2 n2 id j x2 w1 (h.below hb (Nat.le_refl _)) hT hx2 hn)
        by_cases hj:j=id
        ·rw[if_pos hj]at hre
         rw[if_pos hj]at KJ
         have HQ:Hid (aT T ls ls'=(0,T)):=by
          show aT T ls ls'=_
          unfold aT
          rw[hre,hpl]
          simp only
          rw[if_neg (fun hh=>by have h2:=hh.2;rw[cB hx2,hn]at h2;cases h2)]
         clear hn hm1 hm2 hk hp0 CJ hj
         clear h hO hT hS hS' hE H4 H5 hl2 hy hre hln rF hpl hx2 vC
         go_enter Tryz.func94,Tryz.ntmps94
         go_wp2_with fail
         (with_reducible refine H1.out.mono ?_)
         rintro e w1 ⟨rfl,hb1⟩
         have HB1:=Lib.hid hb1
         clear hb1
         go_wp2_with fail
         (with_reducible refine(H2.out w1 HB1.out).mono ?_)
         rintro e w2 ⟨rfl,hb2⟩
         have HB2:=Lib.hid (HB1.out.trans (hb2.mono HB1.out.size))
         clear hb2
         go_wp2_with fail
         (with_reducible refine(H3.out w2 HB2.out).mono ?_)
         rintro e w3 ⟨rfl,hb3⟩
         have HB3:=Lib.hid (HB2.out.trans (hb3.mono HB2.out.size))
         clear hb3
         go_wp2_with fail
         (with_reducible refine(tF.out w3 HB3.out).mono ?_)
         rintro e w4 ⟨rfl,hb4⟩
         have dX:=Lib.hid (HB3.out.trans (hb4.mono HB3.out.size))
         have wO:=dX.out.size
         clear hb4
         go_wp2_with fail
         (with_reducible refine(HW.out _ (dX.out.trans ((wall w4 _).mono dX.out.size))).mono ?_)
         rintro e w5 ⟨rfl,hb5⟩
         have iR:=Lib.hid ((dX.out.trans ((wall w4 _).mono dX.out.size)).trans (hb5.mono (by simp;omega)))
         have q1:w5.cell? ⟨w4.heap.size,1,none⟩=some (.int .i64 2):=by rw[hb5.cell (p:=⟨w4.heap.size,1,none⟩) (by simp)];exact eU w4 _ _ 1
         have CG:w4.heap.size<w5.heap.size:=by have:=hb5.size;simp at this;omega
         clear hb5
         go_wp2_with fail
         (with_reducible refine(qZ.out w5 iR.out).mono ?_)
         rintro e w6 ⟨rfl,rfl⟩
         go_wp2_with fail
         (with_reducible refine(KJ.out w5 iR.out).mono ?_)
         rintro e w6 ⟨rfl,hb6⟩
         have oM:=Lib.hid (iR.out.trans (hb6.mono iR.out.size))
         clear hb6
         go_wp2_with fail
         go_ret
         exact bC.no HH.out oM.out HQ.out
        ·rw[if_neg hj]at hre
         rw[if_neg hj]at KJ
         have HQ:=Lib.hid (iy hre (by omega))
         clear hn hm1 hm2 hk hp0 CJ hj
         clear h hO hT hS hS' hE H4 H5 hl2 hy hre hln rF hpl hx2 vC
         go_enter Tryz.func94,Tryz.ntmps94
         go_wp2_with fail
         (with_reducible refine H1.out.mono ?_)
         rintro e w1 ⟨rfl,hb1⟩
         have HB1:=Lib.hid hb1
         clear hb1
         go_wp2_with fail
         (with_reducible refine(H2.out w1 HB1.out).mono ?_)
         rintro e w2 ⟨rfl,hb2⟩
         have HB2:=Lib.hid (HB1.out.trans (hb2.mono HB1.out.size))
         clear hb2
         go_wp2_with fail
         (with_reducible refine(H3.out w2 HB2.out).mono ?_)
         rintro e w3 ⟨rfl,hb3⟩
         have HB3:=Lib.hid (HB2.out.trans (hb3.mono HB2.out.size))
         clear hb3
         go_wp2_with fail
         (with_reducible refine(tF.out w3 HB3.out).mono ?_)
         rintro e w4 ⟨rfl,hb4⟩
         have dX:=Lib.hid (HB3.out.trans (hb4.mono HB3.out.size))
         have wO:=dX.out.size
         clear hb4
         go_wp2_with fail
         (with_reducible refine(HW.out _ (dX.out.trans ((wall w4 _).mono dX.out.size))).mono ?_)
         rintro e w5 ⟨rfl,hb5⟩
         have iR:=Lib.hid ((dX.out.trans ((wall w4 _).mono dX.out.size)).trans (hb5.mono (by simp;omega)))
         have q1:w5.cell? ⟨w4.heap.size,1,none⟩=some (.int .i64 2):=by rw[hb5.cell (p:=⟨w4.heap.size,1,none⟩) (by simp)];exact eU w4 _ _ 1
         have CG:w4.heap.size<w5.heap.size:=by have:=hb5.size;simp at this;omega
         clear hb5
         go_wp2_with fail
         (with_reducible refine(qZ.out w5 iR.out).mono ?_)
         rintro e w6 ⟨rfl,rfl⟩
         go_wp2_with fail
         (with_reducible refine(KJ.out w5 iR.out).mono ?_)
         rintro e w6 ⟨rfl,hb6⟩
         have oM:=Lib.hid (iR.out.trans (hb6.mono iR.out.size))
         clear hb6
         go_wp2_with fail
         go_ret
         exact bC.no HH.out oM.out HQ.out
       |none=>
        rw[pU HT.out.sorted hx2 hn]at qZ
        rw[hn]at hre
        simp only at hre
        by_cases h8:8<ls'.length+fV T 8 id
        ·rw[if_pos h8]at hre
         have HQ:=Lib.hid (iy hre (by omega))
         rw[rF]at h8
         generalize fV T 8 id=dm at*
         have e1:IntKind.i64.wrap ((dm:Int)+(n':Int))=(dm:Int)+(n':Int):=IntWalk.i64_in _ (by omega)
         have e2:decide ((8:Int)<(dm:Int)+(n':Int))=true:=by simp;omega
         clear hn h8 hk hp0 CJ
         clear h hO hT hS hS' hE H4 H5 hl2 hy hre hln rF hpl hx2 vC
         go_enter Tryz.func94,Tryz.ntmps94
         go_wp2_with fail
         (with_reducible refine H1.out.mono ?_)
         rintro e w1 ⟨rfl,hb1⟩
         have HB1:=Lib.hid hb1
         clear hb1
         go_wp2_with fail
         (with_reducible refine(H2.out w1 HB1.out).mono ?_)
         rintro e w2 ⟨rfl,hb2⟩
         have HB2:=Lib.hid (HB1.out.trans (hb2.mono HB1.out.size))
         clear hb2
         go_wp2_with fail
         (with_reducible refine(H3.out w2 HB2.out).mono ?_)
         rintro e w3 ⟨rfl,hb3⟩
         have HB3:=Lib.hid (HB2.out.trans (hb3.mono HB2.out.size))
         clear hb3
         go_wp2_with fail
         (with_reducible refine(tF.out w3 HB3.out).mono ?_)
         rintro e w4 ⟨rfl,hb4⟩
         have dX:=Lib.hid (HB3.out.trans (hb4.mono HB3.out.size))
         have wO:=dX.out.size
         clear hb4
         go_wp2_with fail
         (with_reducible refine(HW.out _ (dX.out.trans ((wall w4 _).mono dX.out.size))).mono ?_)
         rintro e w5 ⟨rfl,hb5⟩
         have iR:=Lib.hid ((dX.out.trans ((wall w4 _).mono dX.out.size)).trans (hb5.mono (by simp;omega)))
         have q1:w5.cell? ⟨w4.heap.size,1,none⟩=some (.int .i64 2):=by rw[hb5.cell (p:=⟨w4.heap.size,1,none⟩) (by simp)];exact eU w4 _ _ 1
         have CG:w4.heap.size<w5.heap.size:=by have:=hb5.size;simp at this;omega
         clear hb5
         go_wp2_with fail
         (with_reducible refine(qZ.out w5 iR.out).mono ?_)
         rintro e w6 ⟨rfl,rfl⟩
         go_wp2_with fail
         (with_reducible refine Calls.mono (SA.out w5 iR.out) ?_)
         rintro e w6 ⟨rfl,hb6⟩
         have oM:=Lib.hid (iR.out.trans (hb6.mono iR.out.size))
         clear hb6
         go_wp2_with fail
         go_ret
         exact bC.no HH.out oM.out HQ.out
        ·rw[if_neg h8]at hre
         have hls:ls≠[]:=hp0
         obtain⟨d1,x1,n1,hp1,hp2,hx1,Ai,Dt,hm1,-⟩:=bS hl2 hls
         rw[hp1]at CJ
         simp only at CJ
         have yc:=Lib.hid ((pV.of hT).cut d1 n1)
         obtain⟨k1,Du,-⟩:=sK (pV.of hT) hx1 Dt
         have Qf:=Lib.hid (fun w1 hb=>H5.out w1 hb d1 n1)
         rw[Du]at Qf
         have CF:Hid (∀w4,Below w.heap.size w w4→Calls Tryz.prog 69 #[ptr r, .int .i64 k1] w4 (bC F w4 r (aA T d1 n1) (.tuple #[]))):=fun w4 hb=>by
          obtain⟨k',hk',hc'⟩:=vJ d1 n1 id x1 w4 (h.below hb (Nat.le_refl _)) (pV.of hT) hx1 Dt
          rw[Du]at hk'
          have:k1=k':=by omega
          rw[this]
          exact hc'
         have Mt:Hid (aj d2 (aA T d1 n1)=some (if d2=d1 then{x2 with names:=bg n1 x2.names}else x2)∧aj n2 (if d2=d1 then{x2 with names:=bg n1 x2.names}else x2:bF).names=none):=by
          refine⟨?_,?_⟩
          ·unfold aA
           rw[aQ,hx2]
           split<;>rfl
          ·split
           ·show aj n2 (bg n1 x2.names)=none
            rw[eH,hn]
            split<;>rfl
           ·exact hn
         have HQ:Hid (aT T ls ls'=(0,setName (aA T d1 n1) d2 n2 id)):=by
          show aT T ls ls'=_
          unfold aT nG
          rw[hre,hpl,hp1,hl2]
          simp only
          rw[if_pos (by rw[cB hx2,hn];simp)]
         rw[rF]at h8
         generalize fV T 8 id=dm at*
         have e1:IntKind.i64.wrap ((dm:Int)+(n':Int))=(dm:Int)+(n':Int):=IntWalk.i64_in _ (by omega)
         have e2:decide ((8:Int)<(dm:Int)+(n':Int))=false:=by simp;omega
         clear hn h8 hls hp1 hp2 hx1 Ai Dt hm1 Du hk hp0
         clear h hO hT hS hS' hE H4 H5 hl2 hy hre hln rF hpl hx2 vC
         go_enter Tryz.func94,Tryz.ntmps94
         go_wp2_with fail
         (with_reducible refine H1.out.mono ?_)
         rintro e w1 ⟨rfl,hb1⟩
         have HB1:=Lib.hid hb1
         clear hb1
         go_wp2_with fail
         (with_reducible refine(H2.out w1 HB1.out).mono ?_)
         rintro e w2 ⟨rfl,hb2⟩
         have HB2:=Lib.hid (HB1.out.trans (hb2.mono HB1.out.size))
         clear hb2
         go_wp2_with fail
         (with_reducible refine(H3.out w2 HB2.out).mono ?_)
         rintro e w3 ⟨rfl,hb3⟩
         have HB3:=Lib.hid (HB2.out.trans (hb3.mono HB2.out.size))
         clear hb3
         go_wp2_with fail
         (with_reducible refine(tF.out w3 HB3.out).mono ?_)
         rintro e w4 ⟨rfl,hb4⟩
         have dX:=Lib.hid (HB3.out.trans (hb4.mono HB3.out.size))
         have wO:=dX.out.size
         clear hb4
         go_wp2_with fail
         (with_reducible refine(HW.out _ (dX.out.trans ((wall w4 _).mono dX.out.size))).mono ?_)
         rintro e w5 ⟨rfl,hb5⟩
         have iR:=Lib.hid ((dX.out.trans ((wall w4 _).mono dX.out.size)).trans (hb5.mono (by simp;omega)))
         have q1:w5.cell? ⟨w4.heap.size,1,none⟩=some (.int .i64 2):=by rw[hb5.cell (p:=⟨w4.heap.size,1,none⟩) (by simp)];exact eU w4 _ _ 1
         have CG:w4.heap.size<w5.heap.size:=by have:=hb5.size;simp at this;omega
         clear hb5
         go_wp2_with fail
         (with_reducible refine(qZ.out w5 iR.out).mono ?_)
         rintro e w6 ⟨rfl,rfl⟩
         go_wp2_with fail
         (with_reducible refine Calls.mono (SA.out w5 iR.out) ?_)
         rintro e w6 ⟨rfl,hb6⟩
         have oM:=Lib.hid (iR.out.trans (hb6.mono iR.out.size))
         clear hb6
         go_wp2_with fail
         (with_reducible refine(CJ.out w6 oM.out).mono ?_)
         rintro e w8 ⟨rfl,BM⟩
         have vD:=Lib.hid (oM.out.trans (BM.mono oM.out.size))
         clear BM
         go_wp2_with fail
         (with_reducible refine(Qf.out w8 vD.out).mono ?_)
         rintro e w9 ⟨rfl,rfl⟩
         go_wp2_with fail
         (with_reducible refine(CF.out w8 vD.out).mono ?_)
         rintro e w9 SB
         obtain⟨rfl,Qg,NS⟩:=SB
         have HAD:=Lib.hid (sM d2 n2 id _ w9 NS yc.out Mt.out.1 Mt.out.2)
         have SC:Hid (bC F w8 r (aA T d1 n1) (.tuple #[]) (.returned (.tuple #[])) w9):=⟨rfl,Qg,NS⟩
         clear Qg NS
         go_wp2_with fail
         (with_reducible refine HAD.out.mono ?_)
         rintro e Dv Dw
         have NT:=Lib.hid Dw
         obtain rfl:=Dw.1
         clear Dw
         go_wp2_with fail
         go_ret
         rw[HQ.out]
         exact(dh.behind HH.out.low vD.out (SC.out.trans (HH.out.below vD.out (Nat.le_refl _)).low NT.out)).val _
     ·have hkb:(y.kind==2)=false:=by simpa using hk
      rw[if_neg (fun h=>hk h.1)]at hre
      cases hn:aj n2 x2.names with
      |some j=>
       obtain⟨m,hm1,hm2⟩:=nH HT.out.tovw hx2 hn
       rw[hm1]at qZ
       rw[hn]at hre
       simp only at hre
       have m0:¬(m:Int)<0:=by omega
       have m1:(0:Int)≤m:=by omega
       have KJ:=Lib.hid (fun w1 (hb:Below w.heap.size w w1)=>zq d2 n2 id j x2 w1 (h.below hb (Nat.le_refl _)) hT hx2 hn)
       by_cases hj:j=id
       ·rw[if_pos hj]at hre
        rw[if_pos hj]at KJ
        have HQ:Hid (aT T ls ls'=(0,T)):=by
         show aT T ls ls'=_
         unfold aT
         rw[hre,hpl]
         simp only
         rw[if_neg (fun hh=>by have h2:=hh.2;rw[cB hx2,hn]at h2;cases h2)]
        clear hn hm1 hm2 hk hp0 CJ hj
        clear h hO hT hS hS' hE H4 H5 hl2 hy hre hln rF hpl hx2 vC
        go_enter Tryz.func94,Tryz.ntmps94
        go_wp2_with fail
        (with_reducible refine H1.out.mono ?_)
        rintro e w1 ⟨rfl,hb1⟩
        have HB1:=Lib.hid hb1
        clear hb1
        go_wp2_with fail
        (with_reducible refine(H2.out w1 HB1.out).mono ?_)
        rintro e w2 ⟨rfl,hb2⟩
        have HB2:=Lib.hid (HB1.out.trans (hb2.mono HB1.out.size))
        clear hb2
        go_wp2_with fail
        (with_reducible refine(H3.out w2 HB2.out).mono ?_)
        rintro e w3 ⟨rfl,hb3⟩
        have HB3:=Lib.hid (HB2.out.trans (hb3.mono HB2.out.size))
        clear hb3
        go_wp2_with fail
        (with_reducible refine(tF.out w3 HB3.out).mono ?_)
        rintro e w4 ⟨rfl,hb4⟩
        have dX:=Lib.hid (HB3.out.trans (hb4.mono HB3.out.size))
        have wO:=dX.out.size
        clear hb4
        go_wp2_with fail
        have iR:=Lib.hid (dX.out.trans ((wall w4 (.cells #[.int .i64 id, .int .i64 y.kind, .int .i64 y.links, .int .i64 y.b.length, .int .u64 y.aK, .bool y.closed] 98)).mono dX.out.size))
        have q1:(w4.alloc (.cells #[.int .i64 id, .int .i64 y.kind, .int .i64 y.links, .int .i64 y.b.length, .int .u64 y.aK, .bool y.closed] 98)).cell? ⟨w4.heap.size,1,none⟩=some (.int .i64 y.kind):=eU w4 _ _ 1
        have CG:w4.heap.size<(w4.alloc (.cells #[.int .i64 id, .int .i64 y.kind, .int .i64 y.links, .int .i64 y.b.length, .int .u64 y.aK, .bool y.closed] 98)).heap.size:=by simp
        generalize (w4.alloc (.cells #[.int .i64 id, .int .i64 y.kind, .int .i64 y.links, .int .i64 y.b.length, .int .u64 y.aK, .bool y.closed] 98))=w5 at*
        (with_reducible refine(qZ.out w5 iR.out).mono ?_)
        rintro e w6 ⟨rfl,rfl⟩
        go_wp2_with fail
        (with_reducible refine(KJ.out w5 iR.out).mono ?_)
        rintro e w6 ⟨rfl,hb6⟩
        have oM:=Lib.hid (iR.out.trans (hb6.mono iR.out.size))
        clear hb6
        go_wp2_with fail
        go_ret
        exact bC.no HH.out oM.out HQ.out
       ·rw[if_neg hj]at hre
        rw[if_neg hj]at KJ
        have HQ:=Lib.hid (iy hre (by omega))
        clear hn hm1 hm2 hk hp0 CJ hj
        clear h hO hT hS hS' hE H4 H5 hl2 hy hre hln rF hpl hx2 vC
        go_enter Tryz.func94,Tryz.ntmps94
        go_wp2_with fail
        (with_reducible refine H1.out.mono ?_)
        rintro e w1 ⟨rfl,hb1⟩
        have HB1:=Lib.hid hb1
        clear hb1
        go_wp2_with fail
        (with_reducible refine(H2.out w1 HB1.out).mono ?_)
        rintro e w2 ⟨rfl,hb2⟩
        have HB2:=Lib.hid (HB1.out.trans (hb2.mono HB1.out.size))
        clear hb2
        go_wp2_with fail
        (with_reducible refine(H3.out w2 HB2.out).mono ?_)
        rintro e w3 ⟨rfl,hb3⟩
        have HB3:=Lib.hid (HB2.out.trans (hb3.mono HB2.out.size))
        clear hb3
        go_wp2_with fail
        (with_reducible refine(tF.out w3 HB3.out).mono ?_)
        rintro e w4 ⟨rfl,hb4⟩
        have dX:=Lib.hid (HB3.out.trans (hb4.mono HB3.out.size))
        have wO:=dX.out.size
        clear hb4
        go_wp2_with fail
        have iR:=Lib.hid (dX.out.trans ((wall w4 (.cells #[.int .i64 id, .int .i64 y.kind, .int .i64 y.links, .int .i64 y.b.length, .int .u64 y.aK, .bool y.closed] 98)).mono dX.out.size))
        have q1:(w4.alloc (.cells #[.int .i64 id, .int .i64 y.kind, .int .i64 y.links, .int .i64 y.b.length, .int .u64 y.aK, .bool y.closed] 98)).cell? ⟨w4.heap.size,1,none⟩=some (.int .i64 y.kind):=eU w4 _ _ 1
        have CG:w4.heap.size<(w4.alloc (.cells #[.int .i64 id, .int .i64 y.kind, .int .i64 y.links, .int .i64 y.b.length, .int .u64 y.aK, .bool y.closed] 98)).heap.size:=by simp
        generalize (w4.alloc (.cells #[.int .i64 id, .int .i64 y.kind, .int .i64 y.links, .int .i64 y.b.length, .int .u64 y.aK, .bool y.closed] 98))=w5 at*
        (with_reducible refine(qZ.out w5 iR.out).mono ?_)
        rintro e w6 ⟨rfl,rfl⟩
        go_wp2_with fail
        (with_reducible refine(KJ.out w5 iR.out).mono ?_)
        rintro e w6 ⟨rfl,hb6⟩
        have oM:=Lib.hid (iR.out.trans (hb6.mono iR.out.size))
        clear hb6
        go_wp2_with fail
        go_ret
        exact bC.no HH.out oM.out HQ.out
      |none=>
       rw[pU HT.out.sorted hx2 hn]at qZ
       rw[hn]at hre
       simp only at hre
       have hdz:fV T 8 id=0:=wT hT (by rw[bI hy];exact hk) 8
       rw[if_neg (by rw[hdz,rF];omega)]at hre
       have hls:ls≠[]:=hp0
       obtain⟨d1,x1,n1,hp1,hp2,hx1,Ai,Dt,hm1,-⟩:=bS hl2 hls
       rw[hp1]at CJ
       simp only at CJ
       have yc:=Lib.hid ((pV.of hT).cut d1 n1)
       obtain⟨k1,Du,-⟩:=sK (pV.of hT) hx1 Dt
       have Qf:=Lib.hid (fun w1 hb=>H5.out w1 hb d1 n1)
       rw[Du]at Qf
       have CF:Hid (∀w4,Below w.heap.size w w4→Calls Tryz.prog 69 #[ptr r, .int .i64 k1] w4 (bC F w4 r (aA T d1 n1) (.tuple #[]))):=fun w4 hb=>by
        obtain⟨k',hk',hc'⟩:=vJ d1 n1 id x1 w4 (h.below hb (Nat.le_refl _)) (pV.of hT) hx1 Dt
        rw[Du]at hk'
        have:k1=k':=by omega
        rw[this]
        exact hc'
       have Mt:Hid (aj d2 (aA T d1 n1)=some (if d2=d1 then{x2 with names:=bg n1 x2.names}else x2)∧aj n2 (if d2=d1 then{x2 with names:=bg n1 x2.names}else x2:bF).names=none):=by
        refine⟨?_,?_⟩
        ·unfold aA
         rw[aQ,hx2]
         split<;>rfl
        ·split
         ·show aj n2 (bg n1 x2.names)=none
          rw[eH,hn]
          split<;>rfl
         ·exact hn
       have HQ:Hid (aT T ls ls'=(0,setName (aA T d1 n1) d2 n2 id)):=by
        show aT T ls ls'=_
        unfold aT nG
        rw[hre,hpl,hp1,hl2]
        simp only
        rw[if_pos (by rw[cB hx2,hn];simp)]
       clear hn hls hp1 hp2 hx1 Ai Dt hm1 Du hk hp0 hdz SA JR
       clear h hO hT hS hS' hE H4 H5 hl2 hy hre hln rF hpl hx2 vC
       go_enter Tryz.func94,Tryz.ntmps94
       go_wp2_with fail
       (with_reducible refine H1.out.mono ?_)
       rintro e w1 ⟨rfl,hb1⟩
       have HB1:=Lib.hid hb1
       clear hb1
       go_wp2_with fail
       (with_reducible refine(H2.out w1 HB1.out).mono ?_)
       rintro e w2 ⟨rfl,hb2⟩
       have HB2:=Lib.hid (HB1.out.trans (hb2.mono HB1.out.size))
       clear hb2
       go_wp2_with fail
       (with_reducible refine(H3.out w2 HB2.out).mono ?_)
       rintro e w3 ⟨rfl,hb3⟩
       have HB3:=Lib.hid (HB2.out.trans (hb3.mono HB2.out.size))
       clear hb3
       go_wp2_with fail
       (with_reducible refine(tF.out w3 HB3.out).mono ?_)
       rintro e w4 ⟨rfl,hb4⟩
       have dX:=Lib.hid (HB3.out.trans (hb4.mono HB3.out.size))
       have wO:=dX.out.size
       clear hb4
       go_wp2_with fail
       have iR:=Lib.hid (dX.out.trans ((wall w4 (.cells #[.int .i64 id, .int .i64 y.kind, .int .i64 y.links, .int .i64 y.b.length, .int .u64 y.aK, .bool y.closed] 98)).mono dX.out.size))
       have q1:(w4.alloc (.cells #[.int .i64 id, .int .i64 y.kind, .int .i64 y.links, .int .i64 y.b.length, .int .u64 y.aK, .bool y.closed] 98)).cell? ⟨w4.heap.size,1,none⟩=some (.int .i64 y.kind):=eU w4 _ _ 1
       have CG:w4.heap.size<(w4.alloc (.cells #[.int .i64 id, .int .i64 y.kind, .int .i64 y.links, .int .i64 y.b.length, .int .u64 y.aK, .bool y.closed] 98)).heap.size:=by simp
       generalize (w4.alloc (.cells #[.int .i64 id, .int .i64 y.kind, .int .i64 y.links, .int .i64 y.b.length, .int .u64 y.aK, .bool y.closed] 98))=w5 at*
       (with_reducible refine(qZ.out w5 iR.out).mono ?_)
       rintro e w6 ⟨rfl,rfl⟩
       go_wp2_with fail
       (with_reducible refine(CJ.out w5 iR.out).mono ?_)
       rintro e w8 ⟨rfl,BM⟩
       have vD:=Lib.hid (iR.out.trans (BM.mono iR.out.size))
       clear BM
       go_wp2_with fail
       (with_reducible refine(Qf.out w8 vD.out).mono ?_)
       rintro e w9 ⟨rfl,rfl⟩
       go_wp2_with fail
       (with_reducible refine(CF.out w8 vD.out).mono ?_)
       rintro e w9 SB
       obtain⟨rfl,Qg,NS⟩:=SB
       have HAD:=Lib.hid (sM d2 n2 id _ w9 NS yc.out Mt.out.1 Mt.out.2)
       have SC:Hid (bC F w8 r (aA T d1 n1) (.tuple #[]) (.returned (.tuple #[])) w9):=⟨rfl,Qg,NS⟩
       clear Qg NS
       go_wp2_with fail
       (with_reducible refine HAD.out.mono ?_)
       rintro e Dv Dw
       have NT:=Lib.hid Dw
       obtain rfl:=Dw.1
       clear Dw
       go_wp2_with fail
       go_ret
       rw[HQ.out]
       exact(dh.behind HH.out.low vD.out (SC.out.trans (HH.out.below vD.out (Nat.le_refl _)).low NT.out)).val _
    ·rw[if_pos h3]at hre
     have HQ:=Lib.hid (iy hre h3)
     generalize aB T ls'=pl at*
     obtain⟨d2,n2,e2⟩:=pl
     simp only at h3 HQ H3
     have hne:(e2==0)=false:=by simpa using h3
     have hne2:(e2 !=0)=true:=by simpa using h3
     clear h hO hT hS hS' hE hl2 hy hre hp0 hln rF h3 CJ
     go_enter Tryz.func94,Tryz.ntmps94
     go_wp2_with fail
     (with_reducible refine H1.out.mono ?_)
     rintro e w1 ⟨rfl,hb1⟩
     have HB1:=Lib.hid hb1
     clear hb1
     go_wp2_with fail
     (with_reducible refine(H2.out w1 HB1.out).mono ?_)
     rintro e w2 ⟨rfl,hb2⟩
     have HB2:=Lib.hid (HB1.out.trans (hb2.mono HB1.out.size))
     clear hb2
     go_wp2_with fail
     (with_reducible refine(H3.out w2 HB2.out).mono ?_)
     rintro e w3 ⟨rfl,hb3⟩
     have HB3:=Lib.hid (HB2.out.trans (hb3.mono HB2.out.size))
     clear hb3
     go_wp2_with fail
     go_ret
     exact bC.no HH.out HB3.out HQ.out
  ·have HQ:Hid (aT T ls ls'=((aC T 0 ls).2,T)):=iy (by unfold gP;rw[h0,if_neg (by simp),if_pos h1]) h1
   generalize aC T 0 ls=lk at*
   obtain⟨id,e1⟩:=lk
   simp only at h1 H2 HQ
   have hne:(e1==0)=false:=by simpa using h1
   have hne2:(e1 !=0)=true:=by simpa using h1
   clear h hO hT hS hS' hE h0 h1 hln rF CJ
   go_enter Tryz.func94,Tryz.ntmps94
   go_wp2_with fail
   (with_reducible refine H1.out.mono ?_)
   rintro e w1 ⟨rfl,hb1⟩
   have HB1:=Lib.hid hb1
   clear hb1
   go_wp2_with fail
   (with_reducible refine(H2.out w1 HB1.out).mono ?_)
   rintro e w2 ⟨rfl,hb2⟩
   have HB2:=Lib.hid (HB1.out.trans (hb2.mono HB1.out.size))
   clear hb2
   go_wp2_with fail
   go_ret
   exact bC.no HH.out HB2.out HQ.out
 ·have HQ:Hid (aT T ls ls'=(iw ls ls',T)):=iy (by unfold gP;rw[if_pos h0]) h0
  generalize iw ls ls'=f0 at*
  have hne:(f0==0)=false:=by simpa using h0
  have hne2:(f0 !=0)=true:=by simpa using h0
  clear h hO hT hS hS' hE h0 hln rF CJ
  go_enter Tryz.func94,Tryz.ntmps94
  go_wp2_with fail
  (with_reducible refine H1.out.mono ?_)
  rintro e w1 ⟨rfl,hb1⟩
  have HB1:=Lib.hid hb1
  clear hb1
  go_wp2_with fail
  go_ret
  exact bC.no HH.out HB1.out HQ.out
end
end Go.Proofs.YtohpcppeajijnaaGreat
