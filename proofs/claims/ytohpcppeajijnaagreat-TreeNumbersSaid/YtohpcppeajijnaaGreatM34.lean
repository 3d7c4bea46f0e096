/- The reference: Rename. -/
import Derived.Test.YtohpcppeajijnaaGreatM33
namespace Go.Proofs.YtohpcppeajijnaaGreat
open Go.ChangeShapes Go.WideShapes Go.ChangeAt Go.RowKit
set_option linter.unusedVariables false
set_option linter.unusedSimpArgs false
theorem iw {T:aH} {p q:List Nm} {v:Int} (h:gK T p q=v) (hv:v≠0):aY T p q=(v,T):=by
 unfold aY
 rw[h,if_neg (fun h=>hv h.1)]
section
variable {F:Nat→Prop} {r:Nat} {T:aH}
set_option maxRecDepth 100000 in
set_option maxHeartbeats 16000000 in
theorem zN {S S':Nat→Prop} (a:Option Addr) (n c:Nat) (ls:List Nm) (a':Option Addr) (n' c':Nat) (ls':List Nm) (w:World) (h:gU F w r T) (hO:fQ T) (hS:aG S w a n (ls.map strOf)) (hS':aG S' w a' n' (ls'.map strOf)) (hc:n≤c) (jd:n≤1000000) (hc':n'≤c') (ny:n'≤1000000):
  Calls Tryz.prog 94 #[ptr r, .slice a n c, .slice a' n' c'] w (bA F w r (aY T ls ls').2 (.int .i64 (aY T ls ls').1)):=by
 have hT:=hO.1
 have hE:(aU T).length≤1000000:=by have:=gZ hT;omega
 have hln:ls.length=n:=by have:=hS.length;simpa using this
 have qh:ls'.length=n':=by have:=hS'.length;simpa using this
 have H1:=Lib.hid (sS a n c ls a' n' c' ls' w hS hS')
 have H2:=Lib.hid (fun w1 (hb:Below w.heap.size w w1)=>pq a n c ls w1 (h.below hb (Nat.le_refl _)) hT hE (hS.below hb (Nat.le_refl _)))
 have H3:=Lib.hid (fun w1 (hb:Below w.heap.size w w1)=>jQ a' n' c' ls' w1 (h.below hb (Nat.le_refl _)) hT hE (hS'.below hb (Nat.le_refl _)) hc' ny)
 have Ac:=Lib.hid (fun w1 (hb:Below w.heap.size w w1)=>jQ a n c ls w1 (h.below hb (Nat.le_refl _)) hT hE (hS.below hb (Nat.le_refl _)) hc jd)
 have H4:=Lib.hid (fun w1 (hb:Below w.heap.size w w1) id=>jO id w1 (h.below hb (Nat.le_refl _)) hT.totF)
 have H5:=Lib.hid (fun w1 (hb:Below w.heap.size w w1) d nm=>iP d nm w1 (h.below hb (Nat.le_refl _)) hE)
 have HW:=Lib.hid (fun w1 (hb:Below w.heap.size w w1)=>zx a' a n' c' n c (ls'.map strOf) (ls.map strOf) w1 (hS'.below hb (Nat.le_refl _)) (hS.below hb (Nat.le_refl _)))
 rw[sU]at HW
 have HH:=Lib.hid h
 have HT:=Lib.hid hT
 have hr0:=h.low r h.own
 by_cases h0:ig ls ls'=0
 ·rw[h0]at H1
  have hf8:n'≤8:=by have:=kT (lq h0).2;omega
  by_cases h1:(aF T 0 ls).2=0
  ·have hl2:aF T 0 ls=((aF T 0 ls).1,0):=Prod.ext rfl h1
   obtain⟨y,hy⟩:=Option.isSome_iff_exists.1 (fA hT ls 0 (dW hT) h1)
   obtain⟨id,hid⟩:∃id,id=(aF T 0 ls).1:=⟨_,rfl⟩
   rw[←hid]at hl2 hy
   rw[hl2]at H2
   simp only at H2
   have hre:gK T ls ls'=if id=0 then 1 else if (aC T ls').2.2≠0 then(aC T ls').2.2 else if y.kind=2∧iA ls' ls=true then 1 else match aj (aC T ls').2.1 (bB T (aC T ls').1)with|some k=>if k=id then 0 else 21|none=>if 8<ls'.length+gy T 8 id then 3 else 0:=by
    unfold gK
    rw[h0,if_neg (by simp),h1,if_neg (by simp),←hid,b_ hy]
    rfl
   clear h0 h1
   by_cases hp0:ls=[]
   ·have nS:id=0:=by rw[hid,hp0];rfl
    rw[if_pos nS]at hre
    have hn0:n=0:=by rw[←hln,hp0];rfl
    have HQ:=Lib.hid (iw hre (by omega))
    subst hn0
    clear h hO hT hS hS' hE hl2 hid hy hre hp0 nS hln qh hc Ac
    go_enter Tryz.func94,Tryz.ntmps94
    go_wp2_with fail
    (with_reducible refine H1.out.mono ?_)
    rintro e w1 ⟨rfl,hb1⟩
    have HB1:=Lib.hid hb1
    clear hb1
    go_wp2_with fail
    (with_reducible refine(H2.out w1 HB1.out).mono ?_)
    rintro e w2 ⟨rfl,hb2⟩
    have HB2:=Lib.hid (HB1.out.trans (hb2.mono HB1.out.size))
    clear hb2
    go_wp2_with fail
    go_ret
    exact bA.no HH.out HB2.out HQ.out
   ·have nS:id≠0:=fun e=>by
     obtain⟨d,x,n1,_,_,hx,_,hxn,_,-⟩:=bS hl2 hp0
     exact(hT.leads d x hx _ (cu hxn)).2 e
    rw[if_neg nS]at hre
    have hn0:((n:Int)==0)=false:=by
     have:ls.length≠0:=fun e=>hp0 (List.eq_nil_of_length_eq_zero e)
     simp;omega
    clear hid nS
    by_cases h3:(aC T ls').2.2=0
    ·have hpl:aC T ls'=((aC T ls').1,(aC T ls').2.1,0):=Prod.ext rfl (Prod.ext rfl h3)
     obtain⟨x2,hx2,tN,-⟩:=fV hT h3
     rw[if_neg (by rw[h3];simp)]at hre
     obtain⟨d2,hd2⟩:∃d2,d2=(aC T ls').1:=⟨_,rfl⟩
     obtain⟨n2,hn2⟩:∃n2,n2=(aC T ls').2.1:=⟨_,rfl⟩
     rw[←hd2,←hn2]at hpl hre
     rw[←hd2]at hx2
     rw[hpl]at H3
     simp only at H3
     rw[dQ hx2]at hre
     have rE:=Lib.hid (fun w1 hb=>H4.out w1 hb id)
     have hnd:jy T id=iM id y:=by unfold jy;rw[hy]
     rw[hnd]at rE
     unfold iM at rE
     have pU:=Lib.hid (fun w1 hb=>H5.out w1 hb d2 n2)
     have SS:Hid (∀w1,Below w.heap.size w w1→zL r w1 id (gy T 8 id)):=fun w1 hb=>xH hT 8 id w1 (h.below hb (Nat.le_refl _)) (by rw[hy];rfl) (hO.AQ id) (by omega)
     have QB:gy T 8 id≤8:=(hO.AQ id).le
     clear h3 hd2 hn2 hnd
     by_cases hk:y.kind=2
     ·rw[hk]at rE
      cases hw:iA ls' ls with
      |true=>
       rw[hw]at HW
       rw[if_pos ⟨hk,hw⟩]at hre
       have HQ:=Lib.hid (iw hre (by omega))
       clear hk hw hp0 Ac
       clear h hO hT hS hS' hE H4 H5 hl2 hy hre hln qh hpl hx2 tN
       go_enter Tryz.func94,Tryz.ntmps94
       go_wp2_with fail
       (with_reducible refine H1.out.mono ?_)
       rintro e w1 ⟨rfl,hb1⟩
       have HB1:=Lib.hid hb1
       clear hb1
       go_wp2_with fail
       (with_reducible refine(H2.out w1 HB1.out).mono ?_)
       rintro e w2 ⟨rfl,hb2⟩
       have HB2:=Lib.hid (HB1.out.trans (hb2.mono HB1.out.size))
       clear hb2
       go_wp2_with fail
       (with_reducible refine(H3.out w2 HB2.out).mono ?_)
       rintro e w3 ⟨rfl,hb3⟩
       have HB3:=Lib.hid (HB2.out.trans (hb3.mono HB2.out.size))
       clear hb3
       go_wp2_with fail
       (with_reducible refine(rE.out w3 HB3.out).mono ?_)
       rintro e w4 ⟨rfl,hb4⟩
       have eG:=Lib.hid (HB3.out.trans (hb4.mono HB3.out.size))
       have tK:=eG.out.size
       clear hb4
       go_wp2_with fail
       (with_reducible refine(HW.out _ (eG.out.trans ((wall w4 _).mono eG.out.size))).mono ?_)
       rintro e w5 ⟨rfl,hb5⟩
       have iY:=Lib.hid ((eG.out.trans ((wall w4 _).mono eG.out.size)).trans (hb5.mono (by simp;omega)))
       have q1:w5.cell? ⟨w4.heap.size,1,none⟩=some (.int .i64 2):=by rw[hb5.cell (p:=⟨w4.heap.size,1,none⟩) (by simp)];exact eT w4 _ _ 1
       have wH:w4.heap.size<w5.heap.size:=by have:=hb5.size;simp at this;omega
       clear hb5
       go_wp2_with fail
       go_ret
       exact bA.no HH.out iY.out HQ.out
      |false=>
       rw[hw]at HW
       rw[if_neg (by rw[hw];simp)]at hre
       clear hw
       cases hn:aj n2 x2.names with
       |some j=>
        obtain⟨m,hm1,hm2⟩:=mK HT.out.totF hx2 hn
        rw[hm1]at pU
        rw[hn]at hre
        simp only at hre
        have m0:¬(m:Int)<0:=by omega
        have m1:(0:Int)≤m:=by omega
        have Ey:=Lib.hid (fun w1 (hb:Below w.heap.size w w1)=>xI d2 n2 id j x2 w1 (h.below hb (Nat.le_refl _)) hT hx2 hn)
        by_cases hj:j=id
        ·rw[if_pos hj]at hre
         rw[if_pos hj]at Ey
         have HQ:Hid (aY T ls ls'=(0,T)):=by
          show aY T ls ls'=_
          unfold aY
          rw[hre,hpl]
          simp only
          rw[if_neg (fun hh=>by have h2:=hh.2;rw[dQ hx2,hn]at h2;cases h2)]
         clear hn hm1 hm2 hk hp0 Ac hj
         clear h hO hT hS hS' hE H4 H5 hl2 hy hre hln qh hpl hx2 tN
         go_enter Tryz.func94,Tryz.ntmps94
         go_wp2_with fail
         (with_reducible refine H1.out.mono ?_)
         rintro e w1 ⟨rfl,hb1⟩
         have HB1:=Lib.hid hb1
         clear hb1
         go_wp2_with fail
         (with_reducible refine(H2.out w1 HB1.out).mono ?_)
         rintro e w2 ⟨rfl,hb2⟩
         have HB2:=Lib.hid (HB1.out.trans (hb2.mono HB1.out.size))
         clear hb2
         go_wp2_with fail
         (with_reducible refine(H3.out w2 HB2.out).mono ?_)
         rintro e w3 ⟨rfl,hb3⟩
         have HB3:=Lib.hid (HB2.out.trans (hb3.mono HB2.out.size))
         clear hb3
         go_wp2_with fail
         (with_reducible refine(rE.out w3 HB3.out).mono ?_)
         rintro e w4 ⟨rfl,hb4⟩
         have eG:=Lib.hid (HB3.out.trans (hb4.mono HB3.out.size))
         have tK:=eG.out.size
         clear hb4
         go_wp2_with fail
         (with_reducible refine(HW.out _ (eG.out.trans ((wall w4 _).mono eG.out.size))).mono ?_)
         rintro e w5 ⟨rfl,hb5⟩
         have iY:=Lib.hid ((eG.out.trans ((wall w4 _).mono eG.out.size)).trans (hb5.mono (by simp;omega)))
         have q1:w5.cell? ⟨w4.heap.size,1,none⟩=some (.int .i64 2):=by rw[hb5.cell (p:=⟨w4.heap.size,1,none⟩) (by simp)];exact eT w4 _ _ 1
         have wH:w4.heap.size<w5.heap.size:=by have:=hb5.size;simp at this;omega
         clear hb5
         go_wp2_with fail
         (with_reducible refine(pU.out w5 iY.out).mono ?_)
         rintro e w6 ⟨rfl,rfl⟩
         go_wp2_with fail
         (with_reducible refine(Ey.out w5 iY.out).mono ?_)
         rintro e w6 ⟨rfl,hb6⟩
         have qH:=Lib.hid (iY.out.trans (hb6.mono iY.out.size))
         clear hb6
         go_wp2_with fail
         go_ret
         exact bA.no HH.out qH.out HQ.out
        ·rw[if_neg hj]at hre
         rw[if_neg hj]at Ey
         have HQ:=Lib.hid (iw hre (by omega))
         clear hn hm1 hm2 hk hp0 Ac hj
         clear h hO hT hS hS' hE H4 H5 hl2 hy hre hln qh hpl hx2 tN
         go_enter Tryz.func94,Tryz.ntmps94
         go_wp2_with fail
         (with_reducible refine H1.out.mono ?_)
         rintro e w1 ⟨rfl,hb1⟩
         have HB1:=Lib.hid hb1
         clear hb1
         go_wp2_with fail
         (with_reducible refine(H2.out w1 HB1.out).mono ?_)
         rintro e w2 ⟨rfl,hb2⟩
         have HB2:=Lib.hid (HB1.out.trans (hb2.mono HB1.out.size))
         clear hb2
         go_wp2_with fail
         (with_reducible refine(H3.out w2 HB2.out).mono ?_)
         rintro e w3 ⟨rfl,hb3⟩
         have HB3:=Lib.hid (HB2.out.trans (hb3.mono HB2.out.size))
         clear hb3
         go_wp2_with fail
         (with_reducible refine(rE.out w3 HB3.out).mono ?_)
         rintro e w4 ⟨rfl,hb4⟩
         have eG:=Lib.hid (HB3.out.trans (hb4.mono HB3.out.size))
         have tK:=eG.out.size
         clear hb4
         go_wp2_with fail
         (with_reducible refine(HW.out _ (eG.out.trans ((wall w4 _).mono eG.out.size))).mono ?_)
         rintro e w5 ⟨rfl,hb5⟩
         have iY:=Lib.hid ((eG.out.trans ((wall w4 _).mono eG.out.size)).trans (hb5.mono (by simp;omega)))
         have q1:w5.cell? ⟨w4.heap.size,1,none⟩=some (.int .i64 2):=by rw[hb5.cell (p:=⟨w4.heap.size,1,none⟩) (by simp)];exact eT w4 _ _ 1
         have wH:w4.heap.size<w5.heap.size:=by have:=hb5.size;simp at this;omega
         clear hb5
         go_wp2_with fail
         (with_reducible refine(pU.out w5 iY.out).mono ?_)
         rintro e w6 ⟨rfl,rfl⟩
         go_wp2_with fail
         (with_reducible refine(Ey.out w5 iY.out).mono ?_)
         rintro e w6 ⟨rfl,hb6⟩
         have qH:=Lib.hid (iY.out.trans (hb6.mono iY.out.size))
         clear hb6
         go_wp2_with fail
         go_ret
         exact bA.no HH.out qH.out HQ.out
       |none=>
        rw[oH HT.out.sorted hx2 hn]at pU
        rw[hn]at hre
        simp only at hre
        by_cases h8:8<ls'.length+gy T 8 id
        ·rw[if_pos h8]at hre
         have HQ:=Lib.hid (iw hre (by omega))
         rw[qh]at h8
         generalize gy T 8 id=dm at*
         have e1:IntKind.i64.wrap ((dm:Int)+(n':Int))=(dm:Int)+(n':Int):=IntWalk.i64_in _ (by omega)
         have e2:decide ((8:Int)<(dm:Int)+(n':Int))=true:=by simp;omega
         clear hn h8 hk hp0 Ac
         clear h hO hT hS hS' hE H4 H5 hl2 hy hre hln qh hpl hx2 tN
         go_enter Tryz.func94,Tryz.ntmps94
         go_wp2_with fail
         (with_reducible refine H1.out.mono ?_)
         rintro e w1 ⟨rfl,hb1⟩
         have HB1:=Lib.hid hb1
         clear hb1
         go_wp2_with fail
         (with_reducible refine(H2.out w1 HB1.out).mono ?_)
         rintro e w2 ⟨rfl,hb2⟩
         have HB2:=Lib.hid (HB1.out.trans (hb2.mono HB1.out.size))
         clear hb2
         go_wp2_with fail
         (with_reducible refine(H3.out w2 HB2.out).mono ?_)
         rintro e w3 ⟨rfl,hb3⟩
         have HB3:=Lib.hid (HB2.out.trans (hb3.mono HB2.out.size))
         clear hb3
         go_wp2_with fail
         (with_reducible refine(rE.out w3 HB3.out).mono ?_)
         rintro e w4 ⟨rfl,hb4⟩
         have eG:=Lib.hid (HB3.out.trans (hb4.mono HB3.out.size))
         have tK:=eG.out.size
         clear hb4
         go_wp2_with fail
         (with_reducible refine(HW.out _ (eG.out.trans ((wall w4 _).mono eG.out.size))).mono ?_)
         rintro e w5 ⟨rfl,hb5⟩
         have iY:=Lib.hid ((eG.out.trans ((wall w4 _).mono eG.out.size)).trans (hb5.mono (by simp;omega)))
         have q1:w5.cell? ⟨w4.heap.size,1,none⟩=some (.int .i64 2):=by rw[hb5.cell (p:=⟨w4.heap.size,1,none⟩) (by simp)];exact eT w4 _ _ 1
         have wH:w4.heap.size<w5.heap.size:=by have:=hb5.size;simp at this;omega
         clear hb5
         go_wp2_with fail
         (with_reducible refine(pU.out w5 iY.out).mono ?_)
         rintro e w6 ⟨rfl,rfl⟩
         go_wp2_with fail
         (with_reducible refine Calls.mono (SS.out w5 iY.out) ?_)
         rintro e w6 ⟨rfl,hb6⟩
         have qH:=Lib.hid (iY.out.trans (hb6.mono iY.out.size))
         clear hb6
         go_wp2_with fail
         go_ret
         exact bA.no HH.out qH.out HQ.out
        ·rw[if_neg h8]at hre
         have hls:ls≠[]:=hp0
         obtain⟨d1,x1,n1,hp1,hp2,hx1,yj,Bw,hm1,-⟩:=bS hl2 hls
         rw[hp1]at Ac
         simp only at Ac
         have Aa:=Lib.hid ((oI.of hT).cut d1 n1)
         obtain⟨k1,Bz,-⟩:=qQ (oI.of hT) hx1 Bw
         have Pq:=Lib.hid (fun w1 hb=>H5.out w1 hb d1 n1)
         rw[Bz]at Pq
         have Km:Hid (∀w4,Below w.heap.size w w4→Calls Tryz.prog 69 #[ptr r, .int .i64 k1] w4 (bA F w4 r (aA T d1 n1) (.tuple #[]))):=fun w4 hb=>by
          obtain⟨k',hk',hc'⟩:=uf d1 n1 id x1 w4 (h.below hb (Nat.le_refl _)) (oI.of hT) hx1 Bw
          rw[Bz]at hk'
          have:k1=k':=by omega
          rw[this]
          exact hc'
         have Fh:Hid (aj d2 (aA T d1 n1)=some (if d2=d1 then{x2 with names:=bH n1 x2.names}else x2)∧aj n2 (if d2=d1 then{x2 with names:=bH n1 x2.names}else x2:bF).names=none):=by
          refine⟨?_,?_⟩
          ·unfold aA
           rw[aS,hx2]
           split<;>rfl
          ·split
           ·show aj n2 (bH n1 x2.names)=none
            rw[eD,hn]
            split<;>rfl
           ·exact hn
         have HQ:Hid (aY T ls ls'=(0,setName (aA T d1 n1) d2 n2 id)):=by
          show aY T ls ls'=_
          unfold aY mH
          rw[hre,hpl,hp1,hl2]
          simp only
          rw[if_pos (by rw[dQ hx2,hn];simp)]
         rw[qh]at h8
         generalize gy T 8 id=dm at*
         have e1:IntKind.i64.wrap ((dm:Int)+(n':Int))=(dm:Int)+(n':Int):=IntWalk.i64_in _ (by omega)
         have e2:decide ((8:Int)<(dm:Int)+(n':Int))=false:=by simp;omega
         clear hn h8 hls hp1 hp2 hx1 yj Bw hm1 Bz hk hp0
         clear h hO hT hS hS' hE H4 H5 hl2 hy hre hln qh hpl hx2 tN
         go_enter Tryz.func94,Tryz.ntmps94
         go_wp2_with fail
         (with_reducible refine H1.out.mono ?_)
         rintro e w1 ⟨rfl,hb1⟩
         have HB1:=Lib.hid hb1
         clear hb1
         go_wp2_with fail
         (with_reducible refine(H2.out w1 HB1.out).mono ?_)
         rintro e w2 ⟨rfl,hb2⟩
         have HB2:=Lib.hid (HB1.out.trans (hb2.mono HB1.out.size))
         clear hb2
         go_wp2_with fail
         (with_reducible refine(H3.out w2 HB2.out).mono ?_)
         rintro e w3 ⟨rfl,hb3⟩
         have HB3:=Lib.hid (HB2.out.trans (hb3.mono HB2.out.size))
         clear hb3
         go_wp2_with fail
         (with_reducible refine(rE.out w3 HB3.out).mono ?_)
         rintro e w4 ⟨rfl,hb4⟩
         have eG:=Lib.hid (HB3.out.trans (hb4.mono HB3.out.size))
         have tK:=eG.out.size
         clear hb4
         go_wp2_with fail
         (with_reducible refine(HW.out _ (eG.out.trans ((wall w4 _).mono eG.out.size))).mono ?_)
         rintro e w5 ⟨rfl,hb5⟩
         have iY:=Lib.hid ((eG.out.trans ((wall w4 _).mono eG.out.size)).trans (hb5.mono (by simp;omega)))
         have q1:w5.cell? ⟨w4.heap.size,1,none⟩=some (.int .i64 2):=by rw[hb5.cell (p:=⟨w4.heap.size,1,none⟩) (by simp)];exact eT w4 _ _ 1
         have wH:w4.heap.size<w5.heap.size:=by have:=hb5.size;simp at this;omega
         clear hb5
         go_wp2_with fail
         (with_reducible refine(pU.out w5 iY.out).mono ?_)
         rintro e w6 ⟨rfl,rfl⟩
         go_wp2_with fail
         (with_reducible refine Calls.mono (SS.out w5 iY.out) ?_)
         rintro e w6 ⟨rfl,hb6⟩
         have qH:=Lib.hid (iY.out.trans (hb6.mono iY.out.size))
         clear hb6
         go_wp2_with fail
         (with_reducible refine(Ac.out w6 qH.out).mono ?_)
         rintro e w8 ⟨rfl,vv⟩
         have tH:=Lib.hid (qH.out.trans (vv.mono qH.out.size))
         clear vv
         go_wp2_with fail
         (with_reducible refine(Pq.out w8 tH.out).mono ?_)
         rintro e w9 ⟨rfl,rfl⟩
         go_wp2_with fail
         (with_reducible refine(Km.out w8 tH.out).mono ?_)
         rintro e w9 SV
         obtain⟨rfl,Ko,Nb⟩:=SV
         have HAD:=Lib.hid (qR d2 n2 id _ w9 Nb Aa.out Fh.out.1 Fh.out.2)
         have SX:Hid (bA F w8 r (aA T d1 n1) (.tuple #[]) (.returned (.tuple #[])) w9):=⟨rfl,Ko,Nb⟩
         clear Ko Nb
         go_wp2_with fail
         (with_reducible refine HAD.out.mono ?_)
         rintro e RV BA
         have Nc:=Lib.hid BA
         obtain rfl:=BA.1
         clear BA
         go_wp2_with fail
         go_ret
         rw[HQ.out]
         exact(dh.behind HH.out.low tH.out (SX.out.trans (HH.out.below tH.out (Nat.le_refl _)).low Nc.out)).val _
     ·have hkb:(y.kind==2)=false:=by simpa using hk
      rw[if_neg (fun h=>hk h.1)]at hre
      cases hn:aj n2 x2.names with
      |some j=>
       obtain⟨m,hm1,hm2⟩:=mK HT.out.totF hx2 hn
       rw[hm1]at pU
       rw[hn]at hre
       simp only at hre
       have m0:¬(m:Int)<0:=by omega
       have m1:(0:Int)≤m:=by omega
       have Ey:=Lib.hid (fun w1 (hb:Below w.heap.size w w1)=>xI d2 n2 id j x2 w1 (h.below hb (Nat.le_refl _)) hT hx2 hn)
       by_cases hj:j=id
       ·rw[if_pos hj]at hre
        rw[if_pos hj]at Ey
        have HQ:Hid (aY T ls ls'=(0,T)):=by
         show aY T ls ls'=_
         unfold aY
         rw[hre,hpl]
         simp only
         rw[if_neg (fun hh=>by have h2:=hh.2;rw[dQ hx2,hn]at h2;cases h2)]
        clear hn hm1 hm2 hk hp0 Ac hj
        clear h hO hT hS hS' hE H4 H5 hl2 hy hre hln qh hpl hx2 tN
        go_enter Tryz.func94,Tryz.ntmps94
        go_wp2_with fail
        (with_reducible refine H1.out.mono ?_)
        rintro e w1 ⟨rfl,hb1⟩
        have HB1:=Lib.hid hb1
        clear hb1
        go_wp2_with fail
        (with_reducible refine(H2.out w1 HB1.out).mono ?_)
        rintro e w2 ⟨rfl,hb2⟩
        have HB2:=Lib.hid (HB1.out.trans (hb2.mono HB1.out.size))
        clear hb2
        go_wp2_with fail
        (with_reducible refine(H3.out w2 HB2.out).mono ?_)
        rintro e w3 ⟨rfl,hb3⟩
        have HB3:=Lib.hid (HB2.out.trans (hb3.mono HB2.out.size))
        clear hb3
        go_wp2_with fail
        (with_reducible refine(rE.out w3 HB3.out).mono ?_)
        rintro e w4 ⟨rfl,hb4⟩
        have eG:=Lib.hid (HB3.out.trans (hb4.mono HB3.out.size))
        have tK:=eG.out.size
        clear hb4
        go_wp2_with fail
        have iY:=Lib.hid (eG.out.trans ((wall w4 (.cells #[.int .i64 id, .int .i64 y.kind, .int .i64 y.links, .int .i64 y.b.length, .int .u64 y.aQ, .bool y.closed] 98)).mono eG.out.size))
        have q1:(w4.alloc (.cells #[.int .i64 id, .int .i64 y.kind, .int .i64 y.links, .int .i64 y.b.length, .int .u64 y.aQ, .bool y.closed] 98)).cell? ⟨w4.heap.size,1,none⟩=some (.int .i64 y.kind):=eT w4 _ _ 1
        have wH:w4.heap.size<(w4.alloc (.cells #[.int .i64 id, .int .i64 y.kind, .int .i64 y.links, .int .i64 y.b.length, .int .u64 y.aQ, .bool y.closed] 98)).heap.size:=by simp
        generalize (w4.alloc (.cells #[.int .i64 id, .int .i64 y.kind, .int .i64 y.links, .int .i64 y.b.length, .int .u64 y.aQ, .bool y.closed] 98))=w5 at*
        (with_reducible refine(pU.out w5 iY.out).mono ?_)
        rintro e w6 ⟨rfl,rfl⟩
        go_wp2_with fail
        (with_reducible refine(Ey.out w5 iY.out).mono ?_)
        rintro e w6 ⟨rfl,hb6⟩
        have qH:=Lib.hid (iY.out.trans (hb6.mono iY.out.size))
        clear hb6
        go_wp2_with fail
        go_ret
        exact bA.no HH.out qH.out HQ.out
       ·rw[if_neg hj]at hre
        rw[if_neg hj]at Ey
        have HQ:=Lib.hid (iw hre (by omega))
        clear hn hm1 hm2 hk hp0 Ac hj
        clear h hO hT hS hS' hE H4 H5 hl2 hy hre hln qh hpl hx2 tN
        go_enter Tryz.func94,Tryz.ntmps94
        go_wp2_with fail
        (with_reducible refine H1.out.mono ?_)
        rintro e w1 ⟨rfl,hb1⟩
        have HB1:=Lib.hid hb1
        clear hb1
        go_wp2_with fail
        (with_reducible refine(H2.out w1 HB1.out).mono ?_)
        rintro e w2 ⟨rfl,hb2⟩
        have HB2:=Lib.hid (HB1.out.trans (hb2.mono HB1.out.size))
        clear hb2
        go_wp2_with fail
        (with_reducible refine(H3.out w2 HB2.out).mono ?_)
        rintro e w3 ⟨rfl,hb3⟩
        have HB3:=Lib.hid (HB2.out.trans (hb3.mono HB2.out.size))
        clear hb3
        go_wp2_with fail
        (with_reducible refine(rE.out w3 HB3.out).mono ?_)
        rintro e w4 ⟨rfl,hb4⟩
        have eG:=Lib.hid (HB3.out.trans (hb4.mono HB3.out.size))
        have tK:=eG.out.size
        clear hb4
        go_wp2_with fail
        have iY:=Lib.hid (eG.out.trans ((wall w4 (.cells #[.int .i64 id, .int .i64 y.kind, .int .i64 y.links, .int .i64 y.b.length, .int .u64 y.aQ, .bool y.closed] 98)).mono eG.out.size))
        have q1:(w4.alloc (.cells #[.int .i64 id, .int .i64 y.kind, .int .i64 y.links, .int .i64 y.b.length, .int .u64 y.aQ, .bool y.closed] 98)).cell? ⟨w4.heap.size,1,none⟩=some (.int .i64 y.kind):=eT w4 _ _ 1
        have wH:w4.heap.size<(w4.alloc (.cells #[.int .i64 id, .int .i64 y.kind, .int .i64 y.links, .int .i64 y.b.length, .int .u64 y.aQ, .bool y.closed] 98)).heap.size:=by simp
        generalize (w4.alloc (.cells #[.int .i64 id, .int .i64 y.kind, .int .i64 y.links, .int .i64 y.b.length, .int .u64 y.aQ, .bool y.closed] 98))=w5 at*
        (with_reducible refine(pU.out w5 iY.out).mono ?_)
        rintro e w6 ⟨rfl,rfl⟩
        go_wp2_with fail
        (with_reducible refine(Ey.out w5 iY.out).mono ?_)
        rintro e w6 ⟨rfl,hb6⟩
        have qH:=Lib.hid (iY.out.trans (hb6.mono iY.out.size))
        clear hb6
        go_wp2_with fail
        go_ret
        exact bA.no HH.out qH.out HQ.out
      |none=>
       rw[oH HT.out.sorted hx2 hn]at pU
       rw[hn]at hre
       simp only at hre
       have hdz:gy T 8 id=0:=vN hT (by rw[b_ hy];exact hk) 8
       rw[if_neg (by rw[hdz,qh];omega)]at hre
       have hls:ls≠[]:=hp0
       obtain⟨d1,x1,n1,hp1,hp2,hx1,yj,Bw,hm1,-⟩:=bS hl2 hls
       rw[hp1]at Ac
       simp only at Ac
       have Aa:=Lib.hid ((oI.of hT).cut d1 n1)
       obtain⟨k1,Bz,-⟩:=qQ (oI.of hT) hx1 Bw
       have Pq:=Lib.hid (fun w1 hb=>H5.out w1 hb d1 n1)
       rw[Bz]at Pq
       have Km:Hid (∀w4,Below w.heap.size w w4→Calls Tryz.prog 69 #[ptr r, .int .i64 k1] w4 (bA F w4 r (aA T d1 n1) (.tuple #[]))):=fun w4 hb=>by
        obtain⟨k',hk',hc'⟩:=uf d1 n1 id x1 w4 (h.below hb (Nat.le_refl _)) (oI.of hT) hx1 Bw
        rw[Bz]at hk'
        have:k1=k':=by omega
        rw[this]
        exact hc'
       have Fh:Hid (aj d2 (aA T d1 n1)=some (if d2=d1 then{x2 with names:=bH n1 x2.names}else x2)∧aj n2 (if d2=d1 then{x2 with names:=bH n1 x2.names}else x2:bF).names=none):=by
        refine⟨?_,?_⟩
        ·unfold aA
         rw[aS,hx2]
         split<;>rfl
        ·split
         ·show aj n2 (bH n1 x2.names)=none
          rw[eD,hn]
          split<;>rfl
         ·exact hn
       have HQ:Hid (aY T ls ls'=(0,setName (aA T d1 n1) d2 n2 id)):=by
        show aY T ls ls'=_
        unfold aY mH
        rw[hre,hpl,hp1,hl2]
        simp only
        rw[if_pos (by rw[dQ hx2,hn];simp)]
       clear hn hls hp1 hp2 hx1 yj Bw hm1 Bz hk hp0 hdz SS QB
       clear h hO hT hS hS' hE H4 H5 hl2 hy hre hln qh hpl hx2 tN
       go_enter Tryz.func94,Tryz.ntmps94
       go_wp2_with fail
       (with_reducible refine H1.out.mono ?_)
       rintro e w1 ⟨rfl,hb1⟩
       have HB1:=Lib.hid hb1
       clear hb1
       go_wp2_with fail
       (with_reducible refine(H2.out w1 HB1.out).mono ?_)
       rintro e w2 ⟨rfl,hb2⟩
       have HB2:=Lib.hid (HB1.out.trans (hb2.mono HB1.out.size))
       clear hb2
       go_wp2_with fail
       (with_reducible refine(H3.out w2 HB2.out).mono ?_)
       rintro e w3 ⟨rfl,hb3⟩
       have HB3:=Lib.hid (HB2.out.trans (hb3.mono HB2.out.size))
       clear hb3
       go_wp2_with fail
       (with_reducible refine(rE.out w3 HB3.out).mono ?_)
       rintro e w4 ⟨rfl,hb4⟩
       have eG:=Lib.hid (HB3.out.trans (hb4.mono HB3.out.size))
       have tK:=eG.out.size
       clear hb4
       go_wp2_with fail
       have iY:=Lib.hid (eG.out.trans ((wall w4 (.cells #[.int .i64 id, .int .i64 y.kind, .int .i64 y.links, .int .i64 y.b.length, .int .u64 y.aQ, .bool y.closed] 98)).mono eG.out.size))
       have q1:(w4.alloc (.cells #[.int .i64 id, .int .i64 y.kind, .int .i64 y.links, .int .i64 y.b.length, .int .u64 y.aQ, .bool y.closed] 98)).cell? ⟨w4.heap.size,1,none⟩=some (.int .i64 y.kind):=eT w4 _ _ 1
       have wH:w4.heap.size<(w4.alloc (.cells #[.int .i64 id, .int .i64 y.kind, .int .i64 y.links, .int .i64 y.b.length, .int .u64 y.aQ, .bool y.closed] 98)).heap.size:=by simp
       generalize (w4.alloc (.cells #[.int .i64 id, .int .i64 y.kind, .int .i64 y.links, .int .i64 y.b.length, .int .u64 y.aQ, .bool y.closed] 98))=w5 at*
       (with_reducible refine(pU.out w5 iY.out).mono ?_)
       rintro e w6 ⟨rfl,rfl⟩
       go_wp2_with fail
       (with_reducible refine(Ac.out w5 iY.out).mono ?_)
       rintro e w8 ⟨rfl,vv⟩
       have tH:=Lib.hid (iY.out.trans (vv.mono iY.out.size))
       clear vv
       go_wp2_with fail
       (with_reducible refine(Pq.out w8 tH.out).mono ?_)
       rintro e w9 ⟨rfl,rfl⟩
       go_wp2_with fail
       (with_reducible refine(Km.out w8 tH.out).mono ?_)
       rintro e w9 SV
       obtain⟨rfl,Ko,Nb⟩:=SV
       have HAD:=Lib.hid (qR d2 n2 id _ w9 Nb Aa.out Fh.out.1 Fh.out.2)
       have SX:Hid (bA F w8 r (aA T d1 n1) (.tuple #[]) (.returned (.tuple #[])) w9):=⟨rfl,Ko,Nb⟩
       clear Ko Nb
       go_wp2_with fail
       (with_reducible refine HAD.out.mono ?_)
       rintro e RV BA
       have Nc:=Lib.hid BA
       obtain rfl:=BA.1
       clear BA
       go_wp2_with fail
       go_ret
       rw[HQ.out]
       exact(dh.behind HH.out.low tH.out (SX.out.trans (HH.out.below tH.out (Nat.le_refl _)).low Nc.out)).val _
    ·rw[if_pos h3]at hre
     have HQ:=Lib.hid (iw hre h3)
     generalize aC T ls'=pl at*
     obtain⟨d2,n2,e2⟩:=pl
     simp only at h3 HQ H3
     have hne:(e2==0)=false:=by simpa using h3
     have hne2:(e2 !=0)=true:=by simpa using h3
     clear h hO hT hS hS' hE hl2 hy hre hp0 hln qh h3 Ac
     go_enter Tryz.func94,Tryz.ntmps94
     go_wp2_with fail
     (with_reducible refine H1.out.mono ?_)
     rintro e w1 ⟨rfl,hb1⟩
     have HB1:=Lib.hid hb1
     clear hb1
     go_wp2_with fail
     (with_reducible refine(H2.out w1 HB1.out).mono ?_)
     rintro e w2 ⟨rfl,hb2⟩
     have HB2:=Lib.hid (HB1.out.trans (hb2.mono HB1.out.size))
     clear hb2
     go_wp2_with fail
     (with_reducible refine(H3.out w2 HB2.out).mono ?_)
     rintro e w3 ⟨rfl,hb3⟩
     have HB3:=Lib.hid (HB2.out.trans (hb3.mono HB2.out.size))
     clear hb3
     go_wp2_with fail
     go_ret
     exact bA.no HH.out HB3.out HQ.out
  ·have HQ:Hid (aY T ls ls'=((aF T 0 ls).2,T)):=iw (by unfold gK;rw[h0,if_neg (by simp),if_pos h1]) h1
   generalize aF T 0 ls=lk at*
   obtain⟨id,e1⟩:=lk
   simp only at h1 H2 HQ
   have hne:(e1==0)=false:=by simpa using h1
   have hne2:(e1 !=0)=true:=by simpa using h1
   clear h hO hT hS hS' hE h0 h1 hln qh Ac
   go_enter Tryz.func94,Tryz.ntmps94
   go_wp2_with fail
   (with_reducible refine H1.out.mono ?_)
   rintro e w1 ⟨rfl,hb1⟩
   have HB1:=Lib.hid hb1
   clear hb1
   go_wp2_with fail
   (with_reducible refine(H2.out w1 HB1.out).mono ?_)
   rintro e w2 ⟨rfl,hb2⟩
   have HB2:=Lib.hid (HB1.out.trans (hb2.mono HB1.out.size))
   clear hb2
   go_wp2_with fail
   go_ret
   exact bA.no HH.out HB2.out HQ.out
 ·have HQ:Hid (aY T ls ls'=(ig ls ls',T)):=iw (by unfold gK;rw[if_pos h0]) h0
  generalize ig ls ls'=f0 at*
  have hne:(f0==0)=false:=by simpa using h0
  have hne2:(f0 !=0)=true:=by simpa using h0
  clear h hO hT hS hS' hE h0 hln qh Ac
  go_enter Tryz.func94,Tryz.ntmps94
  go_wp2_with fail
  (with_reducible refine H1.out.mono ?_)
  rintro e w1 ⟨rfl,hb1⟩
  have HB1:=Lib.hid hb1
  clear hb1
  go_wp2_with fail
  go_ret
  exact bA.no HH.out HB1.out HQ.out
end
end Go.Proofs.YtohpcppeajijnaaGreat
