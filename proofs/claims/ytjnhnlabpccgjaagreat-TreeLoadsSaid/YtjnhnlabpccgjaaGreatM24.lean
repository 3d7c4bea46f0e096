/- The reference: Rename. -/
import Derived.Test.YtjnhnlabpccgjaaGreatM23
namespace Go.Proofs.YtjnhnlabpccgjaaGreat
open Go.ChangeShapes Go.WideShapes Go.ChangeAt Go.RowKit
set_option linter.unusedVariables false
set_option linter.unusedSimpArgs false
theorem iF {T:aF} {p q:List Nm} {v:Int} (h:gV T p q=v) (hv:v≠0):bg T p q=(v,T):=by
 unfold bg
 rw[h,if_neg (fun h=>hv h.1)]
section
variable {F:Nat→Prop} {r:Nat} {T:aF}
set_option maxRecDepth 100000 in
set_option maxHeartbeats 16000000 in
theorem Er {S S':Nat→Prop} (a:Option Addr) (n c:Nat) (ls:List Nm) (a':Option Addr) (n' c':Nat) (ls':List Nm) (w:World) (h:gW F w r T) (hO:gI T) (hS:aP S w a n (ls.map strOf)) (hS':aP S' w a' n' (ls'.map strOf)) (hc:n≤c) (oP:n≤1000000) (hc':n'≤c') (F3:n'≤1000000):
  Calls Tryz.prog 106 #[ptr r, .slice a n c, .slice a' n' c'] w (bH F w r (bg T ls ls').2 (.int .i64 (bg T ls ls').1)):=by
 have hT:=hO.1
 have hE:(aU T).length≤1000000:=by have:=gX hT;omega
 have hln:ls.length=n:=by have:=hS.length;simpa using this
 have sW:ls'.length=n':=by have:=hS'.length;simpa using this
 have H1:=Lib.hid (wR a n c ls a' n' c' ls' w hS hS')
 have H2:=Lib.hid (fun w1 (hb:Below w.heap.size w w1)=>rJ a n c ls w1 (h.below hb (Nat.le_refl _)) hT hE (hS.below hb (Nat.le_refl _)))
 have H3:=Lib.hid (fun w1 (hb:Below w.heap.size w w1)=>kP a' n' c' ls' w1 (h.below hb (Nat.le_refl _)) hT hE (hS'.below hb (Nat.le_refl _)) hc' F3)
 have Fb:=Lib.hid (fun w1 (hb:Below w.heap.size w w1)=>kP a n c ls w1 (h.below hb (Nat.le_refl _)) hT hE (hS.below hb (Nat.le_refl _)) hc oP)
 have H4:=Lib.hid (fun w1 (hb:Below w.heap.size w w1) id=>jP id w1 (h.below hb (Nat.le_refl _)) hT.torz)
 have H5:=Lib.hid (fun w1 (hb:Below w.heap.size w w1) d nm=>iW d nm w1 (h.below hb (Nat.le_refl _)) hE)
 have HW:=Lib.hid (fun w1 (hb:Below w.heap.size w w1)=>D9 a' a n' c' n c (ls'.map strOf) (ls.map strOf) w1 (hS'.below hb (Nat.le_refl _)) (hS.below hb (Nat.le_refl _)))
 rw[wM]at HW
 have HH:=Lib.hid h
 have HT:=Lib.hid hT
 have hr0:=h.low r h.own
 by_cases h0:iC ls ls'=0
 ·rw[h0]at H1
  have hf8:n'≤8:=by have:=mE (mP h0).2;omega
  by_cases h1:(aA T 0 ls).2=0
  ·have hl2:aA T 0 ls=((aA T 0 ls).1,0):=Prod.ext rfl h1
   obtain⟨y,hy⟩:=Option.isSome_iff_exists.1 (eF hT.w ls 0 (dH hT.w) h1)
   obtain⟨id,hid⟩:∃id,id=(aA T 0 ls).1:=⟨_,rfl⟩
   rw[←hid]at hl2 hy
   rw[hl2]at H2
   simp only at H2
   have hre:gV T ls ls'=if id=0 then 1 else if (aC T ls').2.2≠0 then(aC T ls').2.2 else if y.kind=2∧iH ls' ls=true then 1 else match ah (aC T ls').2.1 (aJ T (aC T ls').1)with|some k=>if k=id then 0 else 21|none=>if 8<ls'.length+gy T 8 id then 3 else 0:=by
    unfold gV
    rw[h0,if_neg (by simp),h1,if_neg (by simp),←hid,aY hy]
    rfl
   clear h0 h1
   by_cases hp0:ls=[]
   ·have qm:id=0:=by rw[hid,hp0];rfl
    rw[if_pos qm]at hre
    have hn0:n=0:=by rw[←hln,hp0];rfl
    have HQ:=Lib.hid (iF hre (by omega))
    subst hn0
    clear h hO hT hS hS' hE hl2 hid hy hre hp0 qm hln sW hc Fb
    go_enter Tryz.func106,Tryz.ntmps106
    go_wp2_with fail
    (with_reducible refine H1.out.mono ?_)
    rintro e w1 ⟨rfl,hb1⟩
    have HB1:=Lib.hid hb1
    clear hb1
    go_wp2_with fail
    (with_reducible refine(H2.out w1 HB1.out).mono ?_)
    rintro e w2 ⟨rfl,hb2⟩
    have HB2:=Lib.hid (HB1.out.trans (hb2.mono HB1.out.size))
    clear hb2
    go_wp2_with fail
    go_ret
    exact bH.no HH.out HB2.out HQ.out
   ·have qm:id≠0:=fun e=>by
     obtain⟨d,x,n1,_,_,hx,_,hxn,_,-⟩:=bQ hl2 hp0
     exact(hT.leads d x hx _ (bq hxn)).2 e
    rw[if_neg qm]at hre
    have hn0:((n:Int)==0)=false:=by
     have:ls.length≠0:=fun e=>hp0 (List.eq_nil_of_length_eq_zero e)
     simp;omega
    clear hid qm
    by_cases h3:(aC T ls').2.2=0
    ·have hpl:aC T ls'=((aC T ls').1,(aC T ls').2.1,0):=Prod.ext rfl (Prod.ext rfl h3)
     obtain⟨x2,hx2,xq,-⟩:=fV hT h3
     rw[if_neg (by rw[h3];simp)]at hre
     obtain⟨d2,hd2⟩:∃d2,d2=(aC T ls').1:=⟨_,rfl⟩
     obtain⟨n2,hn2⟩:∃n2,n2=(aC T ls').2.1:=⟨_,rfl⟩
     rw[←hd2,←hn2]at hpl hre
     rw[←hd2]at hx2
     rw[hpl]at H3
     simp only at H3
     rw[bT hx2]at hre
     have vo:=Lib.hid (fun w1 hb=>H4.out w1 hb id)
     have hnd:iD T id=iJ id y:=by unfold iD;rw[hy]
     rw[hnd]at vo
     unfold iJ at vo
     have sV:=Lib.hid (fun w1 hb=>H5.out w1 hb d2 n2)
     have Xa:Hid (∀w1,Below w.heap.size w w1→Eo r w1 id (gy T 8 id)):=fun w1 hb=>Bt hT 8 id w1 (h.below hb (Nat.le_refl _)) (by rw[hy];rfl) (hO.FM id) (by omega)
     have NV:gy T 8 id≤8:=(hO.FM id).le
     clear h3 hd2 hn2 hnd
     by_cases hk:y.kind=2
     ·rw[hk]at vo
      cases hw:iH ls' ls with
      |true=>
       rw[hw]at HW
       rw[if_pos ⟨hk,hw⟩]at hre
       have HQ:=Lib.hid (iF hre (by omega))
       clear hk hw hp0 Fb
       clear h hO hT hS hS' hE H4 H5 hl2 hy hre hln sW hpl hx2 xq
       go_enter Tryz.func106,Tryz.ntmps106
       go_wp2_with fail
       (with_reducible refine H1.out.mono ?_)
       rintro e w1 ⟨rfl,hb1⟩
       have HB1:=Lib.hid hb1
       clear hb1
       go_wp2_with fail
       (with_reducible refine(H2.out w1 HB1.out).mono ?_)
       rintro e w2 ⟨rfl,hb2⟩
       have HB2:=Lib.hid (HB1.out.trans (hb2.mono HB1.out.size))
       clear hb2
       go_wp2_with fail
       (with_reducible refine(H3.out w2 HB2.out).mono ?_)
       rintro e w3 ⟨rfl,hb3⟩
       have HB3:=Lib.hid (HB2.out.trans (hb3.mono HB2.out.size))
       clear hb3
       go_wp2_with fail
       (with_reducible refine(vo.out w3 HB3.out).mono ?_)
       rintro e w4 ⟨rfl,hb4⟩
       have dS:=Lib.hid (HB3.out.trans (hb4.mono HB3.out.size))
       have za:=dS.out.size
       clear hb4
       go_wp2_with fail
       (with_reducible refine(HW.out _ (dS.out.trans ((wall w4 _).mono dS.out.size))).mono ?_)
       rintro e w5 ⟨rfl,hb5⟩
       have iQ:=Lib.hid ((dS.out.trans ((wall w4 _).mono dS.out.size)).trans (hb5.mono (by simp;omega)))
       have q1:w5.cell? ⟨w4.heap.size,1,none⟩=some (.int .i64 2):=by rw[hb5.cell (p:=⟨w4.heap.size,1,none⟩) (by simp)];exact eP w4 _ _ 1
       have Fa:w4.heap.size<w5.heap.size:=by have:=hb5.size;simp at this;omega
       clear hb5
       go_wp2_with fail
       go_ret
       exact bH.no HH.out iQ.out HQ.out
      |false=>
       rw[hw]at HW
       rw[if_neg (by rw[hw];simp)]at hre
       clear hw
       cases hn:ah n2 x2.names with
       |some j=>
        obtain⟨m,hm1,hm2⟩:=om HT.out.torz hx2 hn
        rw[hm1]at sV
        rw[hn]at hre
        simp only at hre
        have m0:¬(m:Int)<0:=by omega
        have m1:(0:Int)≤m:=by omega
        have Ph:=Lib.hid (fun w1 (hb:Below w.heap.size w w1)=>Bu d2 n2 id j x2 w1 (h.below hb (Nat.le_refl _)) hT hx2 hn)
        by_cases hj:j=id
        ·rw[if_pos hj]at hre
         rw[if_pos hj]at Ph
         have HQ:Hid (bg T ls ls'=(0,T)):=by
          show bg T ls ls'=_
          unfold bg
          rw[hre,hpl]
          simp only
          rw[if_neg (fun hh=>by have h2:=hh.2;rw[bT hx2,hn]at h2;cases h2)]
         clear hn hm1 hm2 hk hp0 Fb hj
         clear h hO hT hS hS' hE H4 H5 hl2 hy hre hln sW hpl hx2 xq
         go_enter Tryz.func106,Tryz.ntmps106
         go_wp2_with fail
         (with_reducible refine H1.out.mono ?_)
         rintro e w1 ⟨rfl,hb1⟩
         have HB1:=Lib.hid hb1
         clear hb1
         go_wp2_with fail
         (with_reducible refine(H2.out w1 HB1.out).mono ?_)
         rintro e w2 ⟨rfl,hb2⟩
         have HB2:=Lib.hid (HB1.out.trans (hb2.mono HB1.out.size))
         clear hb2
         go_wp2_with fail
         (with_reducible refine(H3.out w2 HB2.out).mono ?_)
         rintro e w3 ⟨rfl,hb3⟩
         have HB3:=Lib.hid (HB2.out.trans (hb3.mono HB2.out.size))
         clear hb3
         go_wp2_with fail
         (with_reducible refine(vo.out w3 HB3.out).mono ?_)
         rintro e w4 ⟨rfl,hb4⟩
         have dS:=Lib.hid (HB3.out.trans (hb4.mono HB3.out.size))
         have za:=dS.out.size
         clear hb4
         go_wp2_with fail
         (with_reducible refine(HW.out _ (dS.out.trans ((wall w4 _).mono dS.out.size))).mono ?_)
         rintro e w5 ⟨rfl,hb5⟩
         have iQ:=Lib.hid ((dS.out.trans ((wall w4 _).mono dS.out.size)).trans (hb5.mono (by simp;omega)))
         have q1:w5.cell? ⟨w4.heap.size,1,none⟩=some (.int .i64 2):=by rw[hb5.cell (p:=⟨w4.heap.size,1,none⟩) (by simp)];exact eP w4 _ _ 1
         have Fa:w4.heap.size<w5.heap.size:=by have:=hb5.size;simp at this;omega
         clear hb5
         go_wp2_with fail
         (with_reducible refine(sV.out w5 iQ.out).mono ?_)
         rintro e w6 ⟨rfl,rfl⟩
         go_wp2_with fail
         (with_reducible refine(Ph.out w5 iQ.out).mono ?_)
         rintro e w6 ⟨rfl,hb6⟩
         have rQ:=Lib.hid (iQ.out.trans (hb6.mono iQ.out.size))
         clear hb6
         go_wp2_with fail
         go_ret
         exact bH.no HH.out rQ.out HQ.out
        ·rw[if_neg hj]at hre
         rw[if_neg hj]at Ph
         have HQ:=Lib.hid (iF hre (by omega))
         clear hn hm1 hm2 hk hp0 Fb hj
         clear h hO hT hS hS' hE H4 H5 hl2 hy hre hln sW hpl hx2 xq
         go_enter Tryz.func106,Tryz.ntmps106
         go_wp2_with fail
         (with_reducible refine H1.out.mono ?_)
         rintro e w1 ⟨rfl,hb1⟩
         have HB1:=Lib.hid hb1
         clear hb1
         go_wp2_with fail
         (with_reducible refine(H2.out w1 HB1.out).mono ?_)
         rintro e w2 ⟨rfl,hb2⟩
         have HB2:=Lib.hid (HB1.out.trans (hb2.mono HB1.out.size))
         clear hb2
         go_wp2_with fail
         (with_reducible refine(H3.out w2 HB2.out).mono ?_)
         rintro e w3 ⟨rfl,hb3⟩
         have HB3:=Lib.hid (HB2.out.trans (hb3.mono HB2.out.size))
         clear hb3
         go_wp2_with fail
         (with_reducible refine(vo.out w3 HB3.out).mono ?_)
         rintro e w4 ⟨rfl,hb4⟩
         have dS:=Lib.hid (HB3.out.trans (hb4.mono HB3.out.size))
         have za:=dS.out.size
         clear hb4
         go_wp2_with fail
         (with_reducible refine(HW.out _ (dS.out.trans ((wall w4 _).mono dS.out.size))).mono ?_)
         rintro e w5 ⟨rfl,hb5⟩
         have iQ:=Lib.hid ((dS.out.trans ((wall w4 _).mono dS.out.size)).trans (hb5.mono (by simp;omega)))
         have q1:w5.cell? ⟨w4.heap.size,1,none⟩=some (.int .i64 2):=by rw[hb5.cell (p:=⟨w4.heap.size,1,none⟩) (by simp)];exact eP w4 _ _ 1
         have Fa:w4.heap.size<w5.heap.size:=by have:=hb5.size;simp at this;omega
         clear hb5
         go_wp2_with fail
         (with_reducible refine(sV.out w5 iQ.out).mono ?_)
         rintro e w6 ⟨rfl,rfl⟩
         go_wp2_with fail
         (with_reducible refine(Ph.out w5 iQ.out).mono ?_)
         rintro e w6 ⟨rfl,hb6⟩
         have rQ:=Lib.hid (iQ.out.trans (hb6.mono iQ.out.size))
         clear hb6
         go_wp2_with fail
         go_ret
         exact bH.no HH.out rQ.out HQ.out
       |none=>
        rw[qM HT.out.sorted hx2 hn]at sV
        rw[hn]at hre
        simp only at hre
        by_cases h8:8<ls'.length+gy T 8 id
        ·rw[if_pos h8]at hre
         have HQ:=Lib.hid (iF hre (by omega))
         rw[sW]at h8
         generalize gy T 8 id=dm at*
         have e1:IntKind.i64.wrap ((dm:Int)+(n':Int))=(dm:Int)+(n':Int):=IntWalk.i64_in _ (by omega)
         have e2:decide ((8:Int)<(dm:Int)+(n':Int))=true:=by simp;omega
         clear hn h8 hk hp0 Fb
         clear h hO hT hS hS' hE H4 H5 hl2 hy hre hln sW hpl hx2 xq
         go_enter Tryz.func106,Tryz.ntmps106
         go_wp2_with fail
         (with_reducible refine H1.out.mono ?_)
         rintro e w1 ⟨rfl,hb1⟩
         have HB1:=Lib.hid hb1
         clear hb1
         go_wp2_with fail
         (with_reducible refine(H2.out w1 HB1.out).mono ?_)
         rintro e w2 ⟨rfl,hb2⟩
         have HB2:=Lib.hid (HB1.out.trans (hb2.mono HB1.out.size))
         clear hb2
         go_wp2_with fail
         (with_reducible refine(H3.out w2 HB2.out).mono ?_)
         rintro e w3 ⟨rfl,hb3⟩
         have HB3:=Lib.hid (HB2.out.trans (hb3.mono HB2.out.size))
         clear hb3
         go_wp2_with fail
         (with_reducible refine(vo.out w3 HB3.out).mono ?_)
         rintro e w4 ⟨rfl,hb4⟩
         have dS:=Lib.hid (HB3.out.trans (hb4.mono HB3.out.size))
         have za:=dS.out.size
         clear hb4
         go_wp2_with fail
         (with_reducible refine(HW.out _ (dS.out.trans ((wall w4 _).mono dS.out.size))).mono ?_)
         rintro e w5 ⟨rfl,hb5⟩
         have iQ:=Lib.hid ((dS.out.trans ((wall w4 _).mono dS.out.size)).trans (hb5.mono (by simp;omega)))
         have q1:w5.cell? ⟨w4.heap.size,1,none⟩=some (.int .i64 2):=by rw[hb5.cell (p:=⟨w4.heap.size,1,none⟩) (by simp)];exact eP w4 _ _ 1
         have Fa:w4.heap.size<w5.heap.size:=by have:=hb5.size;simp at this;omega
         clear hb5
         go_wp2_with fail
         (with_reducible refine(sV.out w5 iQ.out).mono ?_)
         rintro e w6 ⟨rfl,rfl⟩
         go_wp2_with fail
         (with_reducible refine Calls.mono (Xa.out w5 iQ.out) ?_)
         rintro e w6 ⟨rfl,hb6⟩
         have rQ:=Lib.hid (iQ.out.trans (hb6.mono iQ.out.size))
         clear hb6
         go_wp2_with fail
         go_ret
         exact bH.no HH.out rQ.out HQ.out
        ·rw[if_neg h8]at hre
         have hls:ls≠[]:=hp0
         obtain⟨d1,x1,n1,hp1,hp2,hx1,Cn,Gn,hm1,-⟩:=bQ hl2 hls
         rw[hp1]at Fb
         simp only at Fb
         have Bn:=Lib.hid ((qN.of hT).cut d1 n1)
         obtain⟨k1,Gp,-⟩:=uO (qN.of hT) hx1 Gn
         have Ux:=Lib.hid (fun w1 hb=>H5.out w1 hb d1 n1)
         rw[Gp]at Ux
         have MI:Hid (∀w4,Below w.heap.size w w4→Calls Tryz.prog 85 #[ptr r, .int .i64 k1] w4 (bH F w4 r (ak T d1 n1) (.tuple #[]))):=fun w4 hb=>by
          obtain⟨k',hk',hc'⟩:=xG d1 n1 id x1 w4 (h.below hb (Nat.le_refl _)) (qN.of hT) hx1 Gn
          rw[Gp]at hk'
          have:k1=k':=by omega
          rw[this]
          exact hc'
         have N7:Hid (ah d2 (ak T d1 n1)=some (if d2=d1 then{x2 with names:=bB n1 x2.names}else x2)∧ah n2 (if d2=d1 then{x2 with names:=bB n1 x2.names}else x2:bA).names=none):=by
          refine⟨?_,?_⟩
          ·unfold ak
           rw[aS,hx2]
           split<;>rfl
          ·split
           ·show ah n2 (bB n1 x2.names)=none
            rw[dP,hn]
            split<;>rfl
           ·exact hn
         have HQ:Hid (bg T ls ls'=(0,setName (ak T d1 n1) d2 n2 id)):=by
          show bg T ls ls'=_
          unfold bg nX
          rw[hre,hpl,hp1,hl2]
          simp only
          rw[if_pos (by rw[bT hx2,hn];simp)]
         rw[sW]at h8
         generalize gy T 8 id=dm at*
         have e1:IntKind.i64.wrap ((dm:Int)+(n':Int))=(dm:Int)+(n':Int):=IntWalk.i64_in _ (by omega)
         have e2:decide ((8:Int)<(dm:Int)+(n':Int))=false:=by simp;omega
         clear hn h8 hls hp1 hp2 hx1 Cn Gn hm1 Gp hk hp0
         clear h hO hT hS hS' hE H4 H5 hl2 hy hre hln sW hpl hx2 xq
         go_enter Tryz.func106,Tryz.ntmps106
         go_wp2_with fail
         (with_reducible refine H1.out.mono ?_)
         rintro e w1 ⟨rfl,hb1⟩
         have HB1:=Lib.hid hb1
         clear hb1
         go_wp2_with fail
         (with_reducible refine(H2.out w1 HB1.out).mono ?_)
         rintro e w2 ⟨rfl,hb2⟩
         have HB2:=Lib.hid (HB1.out.trans (hb2.mono HB1.out.size))
         clear hb2
         go_wp2_with fail
         (with_reducible refine(H3.out w2 HB2.out).mono ?_)
         rintro e w3 ⟨rfl,hb3⟩
         have HB3:=Lib.hid (HB2.out.trans (hb3.mono HB2.out.size))
         clear hb3
         go_wp2_with fail
         (with_reducible refine(vo.out w3 HB3.out).mono ?_)
         rintro e w4 ⟨rfl,hb4⟩
         have dS:=Lib.hid (HB3.out.trans (hb4.mono HB3.out.size))
         have za:=dS.out.size
         clear hb4
         go_wp2_with fail
         (with_reducible refine(HW.out _ (dS.out.trans ((wall w4 _).mono dS.out.size))).mono ?_)
         rintro e w5 ⟨rfl,hb5⟩
         have iQ:=Lib.hid ((dS.out.trans ((wall w4 _).mono dS.out.size)).trans (hb5.mono (by simp;omega)))
         have q1:w5.cell? ⟨w4.heap.size,1,none⟩=some (.int .i64 2):=by rw[hb5.cell (p:=⟨w4.heap.size,1,none⟩) (by simp)];exact eP w4 _ _ 1
         have Fa:w4.heap.size<w5.heap.size:=by have:=hb5.size;simp at this;omega
         clear hb5
         go_wp2_with fail
         (with_reducible refine(sV.out w5 iQ.out).mono ?_)
         rintro e w6 ⟨rfl,rfl⟩
         go_wp2_with fail
         (with_reducible refine Calls.mono (Xa.out w5 iQ.out) ?_)
         rintro e w6 ⟨rfl,hb6⟩
         have rQ:=Lib.hid (iQ.out.trans (hb6.mono iQ.out.size))
         clear hb6
         go_wp2_with fail
         (with_reducible refine(Fb.out w6 rQ.out).mono ?_)
         rintro e w8 ⟨rfl,vv⟩
         have sZ:=Lib.hid (rQ.out.trans (vv.mono rQ.out.size))
         clear vv
         go_wp2_with fail
         (with_reducible refine(Ux.out w8 sZ.out).mono ?_)
         rintro e w9 ⟨rfl,rfl⟩
         go_wp2_with fail
         (with_reducible refine(MI.out w8 sZ.out).mono ?_)
         rintro e w9 Xb
         obtain⟨rfl,Uy,RY⟩:=Xb
         have HAD:=Lib.hid (xH d2 n2 id _ w9 RY Bn.out N7.out.1 N7.out.2)
         have Xc:Hid (bH F w8 r (ak T d1 n1) (.tuple #[]) (.returned (.tuple #[])) w9):=⟨rfl,Uy,RY⟩
         clear Uy RY
         go_wp2_with fail
         (with_reducible refine HAD.out.mono ?_)
         rintro e Es Gq
         have RZ:=Lib.hid Gq
         obtain rfl:=Gq.1
         clear Gq
         go_wp2_with fail
         go_ret
         rw[HQ.out]
         exact(dB.behind HH.out.low sZ.out (Xc.out.trans (HH.out.below sZ.out (Nat.le_refl _)).low RZ.out)).val _
     ·have hkb:(y.kind==2)=false:=by simpa using hk
      rw[if_neg (fun h=>hk h.1)]at hre
      cases hn:ah n2 x2.names with
      |some j=>
       obtain⟨m,hm1,hm2⟩:=om HT.out.torz hx2 hn
       rw[hm1]at sV
       rw[hn]at hre
       simp only at hre
       have m0:¬(m:Int)<0:=by omega
       have m1:(0:Int)≤m:=by omega
       have Ph:=Lib.hid (fun w1 (hb:Below w.heap.size w w1)=>Bu d2 n2 id j x2 w1 (h.below hb (Nat.le_refl _)) hT hx2 hn)
       by_cases hj:j=id
       ·rw[if_pos hj]at hre
        rw[if_pos hj]at Ph
        have HQ:Hid (bg T ls ls'=(0,T)):=by
         show bg T ls ls'=_
         unfold bg
         rw[hre,hpl]
         simp only
         rw[if_neg (fun hh=>by have h2:=hh.2;rw[bT hx2,hn]at h2;cases h2)]
        clear hn hm1 hm2 hk hp0 Fb hj
        clear h hO hT hS hS' hE H4 H5 hl2 hy hre hln sW hpl hx2 xq
        go_enter Tryz.func106,Tryz.ntmps106
        go_wp2_with fail
        (with_reducible refine H1.out.mono ?_)
        rintro e w1 ⟨rfl,hb1⟩
        have HB1:=Lib.hid hb1
        clear hb1
        go_wp2_with fail
        (with_reducible refine(H2.out w1 HB1.out).mono ?_)
        rintro e w2 ⟨rfl,hb2⟩
        have HB2:=Lib.hid (HB1.out.trans (hb2.mono HB1.out.size))
        clear hb2
        go_wp2_with fail
        (with_reducible refine(H3.out w2 HB2.out).mono ?_)
        rintro e w3 ⟨rfl,hb3⟩
        have HB3:=Lib.hid (HB2.out.trans (hb3.mono HB2.out.size))
        clear hb3
        go_wp2_with fail
        (with_reducible refine(vo.out w3 HB3.out).mono ?_)
        rintro e w4 ⟨rfl,hb4⟩
        have dS:=Lib.hid (HB3.out.trans (hb4.mono HB3.out.size))
        have za:=dS.out.size
        clear hb4
        go_wp2_with fail
        have iQ:=Lib.hid (dS.out.trans ((wall w4 (.cells #[.int .i64 id, .int .i64 y.kind, .int .i64 y.links, .int .i64 y.b.length, .int .u64 y.aO, .bool y.closed] 101)).mono dS.out.size))
        have q1:(w4.alloc (.cells #[.int .i64 id, .int .i64 y.kind, .int .i64 y.links, .int .i64 y.b.length, .int .u64 y.aO, .bool y.closed] 101)).cell? ⟨w4.heap.size,1,none⟩=some (.int .i64 y.kind):=eP w4 _ _ 1
        have Fa:w4.heap.size<(w4.alloc (.cells #[.int .i64 id, .int .i64 y.kind, .int .i64 y.links, .int .i64 y.b.length, .int .u64 y.aO, .bool y.closed] 101)).heap.size:=by simp
        generalize (w4.alloc (.cells #[.int .i64 id, .int .i64 y.kind, .int .i64 y.links, .int .i64 y.b.length, .int .u64 y.aO, .bool y.closed] 101))=w5 at*
        (with_reducible refine(sV.out w5 iQ.out).mono ?_)
        rintro e w6 ⟨rfl,rfl⟩
        go_wp2_with fail
        (with_reducible refine(Ph.out w5 iQ.out).mono ?_)
        rintro e w6 ⟨rfl,hb6⟩
        have rQ:=Lib.hid (iQ.out.trans (hb6.mono iQ.out.size))
        clear hb6
        go_wp2_with fail
        go_ret
        exact bH.no HH.out rQ.out HQ.out
       ·rw[if_neg hj]at hre
        rw[if_neg hj]at Ph
        have HQ:=Lib.hid (iF hre (by omega))
        clear hn hm1 hm2 hk hp0 Fb hj
        clear h hO hT hS hS' hE H4 H5 hl2 hy hre hln sW hpl hx2 xq
        go_enter Tryz.func106,Tryz.ntmps106
        go_wp2_with fail
        (with_reducible refine H1.out.mono ?_)
        rintro e w1 ⟨rfl,hb1⟩
        have HB1:=Lib.hid hb1
        clear hb1
        go_wp2_with fail
        (with_reducible refine(H2.out w1 HB1.out).mono ?_)
        rintro e w2 ⟨rfl,hb2⟩
        have HB2:=Lib.hid (HB1.out.trans (hb2.mono HB1.out.size))
        clear hb2
        go_wp2_with fail
        (with_reducible refine(H3.out w2 HB2.out).mono ?_)
        rintro e w3 ⟨rfl,hb3⟩
        have HB3:=Lib.hid (HB2.out.trans (hb3.mono HB2.out.size))
        clear hb3
        go_wp2_with fail
        (with_reducible refine(vo.out w3 HB3.out).mono ?_)
        rintro e w4 ⟨rfl,hb4⟩
        have dS:=Lib.hid (HB3.out.trans (hb4.mono HB3.out.size))
        have za:=dS.out.size
        clear hb4
        go_wp2_with fail
        have iQ:=Lib.hid (dS.out.trans ((wall w4 (.cells #[.int .i64 id, .int .i64 y.kind, .int .i64 y.links, .int .i64 y.b.length, .int .u64 y.aO, .bool y.closed] 101)).mono dS.out.size))
        have q1:(w4.alloc (.cells #[.int .i64 id, .int .i64 y.kind, .int .i64 y.links, .int .i64 y.b.length, .int .u64 y.aO, .bool y.closed] 101)).cell? ⟨w4.heap.size,1,none⟩=some (.int .i64 y.kind):=eP w4 _ _ 1
        have Fa:w4.heap.size<(w4.alloc (.cells #[.int .i64 id, .int .i64 y.kind, .int .i64 y.links, .int .i64 y.b.length, .int .u64 y.aO, .bool y.closed] 101)).heap.size:=by simp
        generalize (w4.alloc (.cells #[.int .i64 id, .int .i64 y.kind, .int .i64 y.links, .int .i64 y.b.length, .int .u64 y.aO, .bool y.closed] 101))=w5 at*
        (with_reducible refine(sV.out w5 iQ.out).mono ?_)
        rintro e w6 ⟨rfl,rfl⟩
        go_wp2_with fail
        (with_reducible refine(Ph.out w5 iQ.out).mono ?_)
        rintro e w6 ⟨rfl,hb6⟩
        have rQ:=Lib.hid (iQ.out.trans (hb6.mono iQ.out.size))
        clear hb6
        go_wp2_with fail
        go_ret
        exact bH.no HH.out rQ.out HQ.out
      |none=>
       rw[qM HT.out.sorted hx2 hn]at sV
       rw[hn]at hre
       simp only at hre
       have hdz:gy T 8 id=0:=zi hT (by rw[aY hy];exact hk) 8
       rw[if_neg (by rw[hdz,sW];omega)]at hre
       have hls:ls≠[]:=hp0
       obtain⟨d1,x1,n1,hp1,hp2,hx1,Cn,Gn,hm1,-⟩:=bQ hl2 hls
       rw[hp1]at Fb
       simp only at Fb
       have Bn:=Lib.hid ((qN.of hT).cut d1 n1)
       obtain⟨k1,Gp,-⟩:=uO (qN.of hT) hx1 Gn
       have Ux:=Lib.hid (fun w1 hb=>H5.out w1 hb d1 n1)
       rw[Gp]at Ux
       have MI:Hid (∀w4,Below w.heap.size w w4→Calls Tryz.prog 85 #[ptr r, .int .i64 k1] w4 (bH F w4 r (ak T d1 n1) (.tuple #[]))):=fun w4 hb=>by
        obtain⟨k',hk',hc'⟩:=xG d1 n1 id x1 w4 (h.below hb (Nat.le_refl _)) (qN.of hT) hx1 Gn
        rw[Gp]at hk'
        have:k1=k':=by omega
        rw[this]
        exact hc'
       have N7:Hid (ah d2 (ak T d1 n1)=some (if d2=d1 then{x2 with names:=bB n1 x2.names}else x2)∧ah n2 (if d2=d1 then{x2 with names:=bB n1 x2.names}else x2:bA).names=none):=by
        refine⟨?_,?_⟩
        ·unfold ak
         rw[aS,hx2]
         split<;>rfl
        ·split
         ·show ah n2 (bB n1 x2.names)=none
          rw[dP,hn]
          split<;>rfl
         ·exact hn
       have HQ:Hid (bg T ls ls'=(0,setName (ak T d1 n1) d2 n2 id)):=by
        show bg T ls ls'=_
        unfold bg nX
        rw[hre,hpl,hp1,hl2]
        simp only
        rw[if_pos (by rw[bT hx2,hn];simp)]
       clear hn hls hp1 hp2 hx1 Cn Gn hm1 Gp hk hp0 hdz Xa NV
       clear h hO hT hS hS' hE H4 H5 hl2 hy hre hln sW hpl hx2 xq
       go_enter Tryz.func106,Tryz.ntmps106
       go_wp2_with fail
       (with_reducible refine H1.out.mono ?_)
       rintro e w1 ⟨rfl,hb1⟩
       have HB1:=Lib.hid hb1
       clear hb1
       go_wp2_with fail
       (with_reducible refine(H2.out w1 HB1.out).mono ?_)
       rintro e w2 ⟨rfl,hb2⟩
       have HB2:=Lib.hid (HB1.out.trans (hb2.mono HB1.out.size))
       clear hb2
       go_wp2_with fail
       (with_reducible refine(H3.out w2 HB2.out).mono ?_)
       rintro e w3 ⟨rfl,hb3⟩
       have HB3:=Lib.hid (HB2.out.trans (hb3.mono HB2.out.size))
       clear hb3
       go_wp2_with fail
       (with_reducible refine(vo.out w3 HB3.out).mono ?_)
       rintro e w4 ⟨rfl,hb4⟩
       have dS:=Lib.hid (HB3.out.trans (hb4.mono HB3.out.size))
       have za:=dS.out.size
       clear hb4
       go_wp2_with fail
       have iQ:=Lib.hid (dS.out.trans ((wall w4 (.cells #[.int .i64 id, .int .i64 y.kind, .int .i64 y.links, .int .i64 y.b.length, .int .u64 y.aO, .bool y.closed] 101)).mono dS.out.size))
       have q1:(w4.alloc (.cells #[.int .i64 id, .int .i64 y.kind, .int .i64 y.links, .int .i64 y.b.length, .int .u64 y.aO, .bool y.closed] 101)).cell? ⟨w4.heap.size,1,none⟩=some (.int .i64 y.kind):=eP w4 _ _ 1
       have Fa:w4.heap.size<(w4.alloc (.cells #[.int .i64 id, .int .i64 y.kind, .int .i64 y.links, .int .i64 y.b.length, .int .u64 y.aO, .bool y.closed] 101)).heap.size:=by simp
       generalize (w4.alloc (.cells #[.int .i64 id, .int .i64 y.kind, .int .i64 y.links, .int .i64 y.b.length, .int .u64 y.aO, .bool y.closed] 101))=w5 at*
       (with_reducible refine(sV.out w5 iQ.out).mono ?_)
       rintro e w6 ⟨rfl,rfl⟩
       go_wp2_with fail
       (with_reducible refine(Fb.out w5 iQ.out).mono ?_)
       rintro e w8 ⟨rfl,vv⟩
       have sZ:=Lib.hid (iQ.out.trans (vv.mono iQ.out.size))
       clear vv
       go_wp2_with fail
       (with_reducible refine(Ux.out w8 sZ.out).mono ?_)
       rintro e w9 ⟨rfl,rfl⟩
       go_wp2_with fail
       (with_reducible refine(MI.out w8 sZ.out).mono ?_)
       rintro e w9 Xb
       obtain⟨rfl,Uy,RY⟩:=Xb
       have HAD:=Lib.hid (xH d2 n2 id _ w9 RY Bn.out N7.out.1 N7.out.2)
       have Xc:Hid (bH F w8 r (ak T d1 n1) (.tuple #[]) (.returned (.tuple #[])) w9):=⟨rfl,Uy,RY⟩
       clear Uy RY
       go_wp2_with fail
       (with_reducible refine HAD.out.mono ?_)
       rintro e Es Gq
       have RZ:=Lib.hid Gq
       obtain rfl:=Gq.1
       clear Gq
       go_wp2_with fail
       go_ret
       rw[HQ.out]
       exact(dB.behind HH.out.low sZ.out (Xc.out.trans (HH.out.below sZ.out (Nat.le_refl _)).low RZ.out)).val _
    ·rw[if_pos h3]at hre
     have HQ:=Lib.hid (iF hre h3)
     generalize aC T ls'=pl at*
     obtain⟨d2,n2,e2⟩:=pl
     simp only at h3 HQ H3
     have hne:(e2==0)=false:=by simpa using h3
     have hne2:(e2 !=0)=true:=by simpa using h3
     clear h hO hT hS hS' hE hl2 hy hre hp0 hln sW h3 Fb
     go_enter Tryz.func106,Tryz.ntmps106
     go_wp2_with fail
     (with_reducible refine H1.out.mono ?_)
     rintro e w1 ⟨rfl,hb1⟩
     have HB1:=Lib.hid hb1
     clear hb1
     go_wp2_with fail
     (with_reducible refine(H2.out w1 HB1.out).mono ?_)
     rintro e w2 ⟨rfl,hb2⟩
     have HB2:=Lib.hid (HB1.out.trans (hb2.mono HB1.out.size))
     clear hb2
     go_wp2_with fail
     (with_reducible refine(H3.out w2 HB2.out).mono ?_)
     rintro e w3 ⟨rfl,hb3⟩
     have HB3:=Lib.hid (HB2.out.trans (hb3.mono HB2.out.size))
     clear hb3
     go_wp2_with fail
     go_ret
     exact bH.no HH.out HB3.out HQ.out
  ·have HQ:Hid (bg T ls ls'=((aA T 0 ls).2,T)):=iF (by unfold gV;rw[h0,if_neg (by simp),if_pos h1]) h1
   generalize aA T 0 ls=lk at*
   obtain⟨id,e1⟩:=lk
   simp only at h1 H2 HQ
   have hne:(e1==0)=false:=by simpa using h1
   have hne2:(e1 !=0)=true:=by simpa using h1
   clear h hO hT hS hS' hE h0 h1 hln sW Fb
   go_enter Tryz.func106,Tryz.ntmps106
   go_wp2_with fail
   (with_reducible refine H1.out.mono ?_)
   rintro e w1 ⟨rfl,hb1⟩
   have HB1:=Lib.hid hb1
   clear hb1
   go_wp2_with fail
   (with_reducible refine(H2.out w1 HB1.out).mono ?_)
   rintro e w2 ⟨rfl,hb2⟩
   have HB2:=Lib.hid (HB1.out.trans (hb2.mono HB1.out.size))
   clear hb2
   go_wp2_with fail
   go_ret
   exact bH.no HH.out HB2.out HQ.out
 ·have HQ:Hid (bg T ls ls'=(iC ls ls',T)):=iF (by unfold gV;rw[if_pos h0]) h0
  generalize iC ls ls'=f0 at*
  have hne:(f0==0)=false:=by simpa using h0
  have hne2:(f0 !=0)=true:=by simpa using h0
  clear h hO hT hS hS' hE h0 hln sW Fb
  go_enter Tryz.func106,Tryz.ntmps106
  go_wp2_with fail
  (with_reducible refine H1.out.mono ?_)
  rintro e w1 ⟨rfl,hb1⟩
  have HB1:=Lib.hid hb1
  clear hb1
  go_wp2_with fail
  go_ret
  exact bH.no HH.out HB1.out HQ.out
end
end Go.Proofs.YtjnhnlabpccgjaaGreat
