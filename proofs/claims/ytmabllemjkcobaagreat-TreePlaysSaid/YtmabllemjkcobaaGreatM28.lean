/- The reference: Rename. -/
import Derived.Test.YtmabllemjkcobaaGreatM27
namespace Go.Proofs.YtmabllemjkcobaaGreat
open Go.ChangeShapes Go.WideShapes Go.ChangeAt Go.RowKit
set_option linter.unusedVariables false
set_option linter.unusedSimpArgs false
theorem jg {T:aG} {p q:List Nm} {v:Int} (h:iM T p q=v) (hv:v≠0):bB T p q=(v,T):=by
 unfold bB
 rw[h,if_neg (fun h=>hv h.1)]
section
variable {F:Nat→Prop} {r:Nat} {T:aG}
set_option maxRecDepth 100000 in
set_option maxHeartbeats 16000000 in
theorem yx {S S':Nat→Prop} (a:Option Addr) (n c:Nat) (ls:List Nm) (a':Option Addr) (n' c':Nat) (ls':List Nm) (w:World) (h:iq F w r T) (hO:fG T) (hS:aK S w a n (ls.map strOf)) (hS':aK S' w a' n' (ls'.map strOf)) (hc:n≤c) (kV:n≤1000000) (hc':n'≤c') (xA:n'≤1000000):
  Calls Tryz.prog 98 #[ptr r, .slice a n c, .slice a' n' c'] w (bX F w r (bB T ls ls').2 (.int .i64 (bB T ls ls').1)):=by
 have hT:=hO.1
 have hE:(aT T).length≤1000000:=by have:=gQ hT;omega
 have hln:ls.length=n:=by have:=hS.length;simpa using this
 have uQ:ls'.length=n':=by have:=hS'.length;simpa using this
 have H1:=Lib.hid (yt a n c ls a' n' c' ls' w hS hS')
 have H2:=Lib.hid (fun w1 (hb:Below w.heap.size w w1)=>tO a n c ls w1 (h.below hb (Nat.le_refl _)) hT hE (hS.below hb (Nat.le_refl _)))
 have H3:=Lib.hid (fun w1 (hb:Below w.heap.size w w1)=>lF a' n' c' ls' w1 (h.below hb (Nat.le_refl _)) hT hE (hS'.below hb (Nat.le_refl _)) hc' xA)
 have Hg:=Lib.hid (fun w1 (hb:Below w.heap.size w w1)=>lF a n c ls w1 (h.below hb (Nat.le_refl _)) hT hE (hS.below hb (Nat.le_refl _)) hc kV)
 have H4:=Lib.hid (fun w1 (hb:Below w.heap.size w w1) id=>jA id w1 (h.below hb (Nat.le_refl _)) hT.toyQ)
 have H5:=Lib.hid (fun w1 (hb:Below w.heap.size w w1) d nm=>jG d nm w1 (h.below hb (Nat.le_refl _)) hE)
 have HW:=Lib.hid (fun w1 (hb:Below w.heap.size w w1)=>Fx a' a n' c' n c (ls'.map strOf) (ls.map strOf) w1 (hS'.below hb (Nat.le_refl _)) (hS.below hb (Nat.le_refl _)))
 rw[yu]at HW
 have HH:=Lib.hid h
 have HT:=Lib.hid hT
 have hr0:=h.low r h.own
 by_cases h0:je ls ls'=0
 ·rw[h0]at H1
  have hf8:n'≤8:=by have:=nO (oh h0).2;omega
  by_cases h1:(aH T 0 ls).2=0
  ·have hl2:aH T 0 ls=((aH T 0 ls).1,0):=Prod.ext rfl h1
   obtain⟨y,hy⟩:=Option.isSome_iff_exists.1 (fP hT ls 0 (eF hT) h1)
   obtain⟨id,hid⟩:∃id,id=(aH T 0 ls).1:=⟨_,rfl⟩
   rw[←hid]at hl2 hy
   rw[hl2]at H2
   simp only at H2
   have hre:iM T ls ls'=if id=0 then 1 else if (aI T ls').2.2≠0 then(aI T ls').2.2 else if y.kind=2∧jk ls' ls=true then 1 else match aj (aI T ls').2.1 (aX T (aI T ls').1)with|some k=>if k=id then 0 else 21|none=>if 8<ls'.length+iB T 8 id then 3 else 0:=by
    unfold iM
    rw[h0,if_neg (by simp),h1,if_neg (by simp),←hid,bQ hy]
    rfl
   clear h0 h1
   by_cases hp0:ls=[]
   ·have rH:id=0:=by rw[hid,hp0];rfl
    rw[if_pos rH]at hre
    have hn0:n=0:=by rw[←hln,hp0];rfl
    have HQ:=Lib.hid (jg hre (by omega))
    subst hn0
    clear h hO hT hS hS' hE hl2 hid hy hre hp0 rH hln uQ hc Hg
    go_enter Tryz.func98,Tryz.ntmps98
    go_wp2_with fail
    (with_reducible refine H1.out.mono ?_)
    rintro e w1 ⟨rfl,hb1⟩
    have HB1:=Lib.hid hb1
    clear hb1
    go_wp2_with fail
    (with_reducible refine(H2.out w1 HB1.out).mono ?_)
    rintro e w2 ⟨rfl,hb2⟩
    have HB2:=Lib.hid (HB1.out.trans (hb2.mono HB1.out.size))
    clear hb2
    go_wp2_with fail
    go_ret
    exact bX.no HH.out HB2.out HQ.out
   ·have rH:id≠0:=fun e=>by
     obtain⟨d,x,n1,_,_,hx,_,hxn,_,-⟩:=dB hl2 hp0
     exact(hT.leads d x hx _ (bP hxn)).2 e
    rw[if_neg rH]at hre
    have hn0:((n:Int)==0)=false:=by
     have:ls.length≠0:=fun e=>hp0 (List.eq_nil_of_length_eq_zero e)
     simp;omega
    clear hid rH
    by_cases h3:(aI T ls').2.2=0
    ·have hpl:aI T ls'=((aI T ls').1,(aI T ls').2.1,0):=Prod.ext rfl (Prod.ext rfl h3)
     obtain⟨x2,hx2,yT,-⟩:=ig hT h3
     rw[if_neg (by rw[h3];simp)]at hre
     obtain⟨d2,hd2⟩:∃d2,d2=(aI T ls').1:=⟨_,rfl⟩
     obtain⟨n2,hn2⟩:∃n2,n2=(aI T ls').2.1:=⟨_,rfl⟩
     rw[←hd2,←hn2]at hpl hre
     rw[←hd2]at hx2
     rw[hpl]at H3
     simp only at H3
     rw[dK hx2]at hre
     have wQ:=Lib.hid (fun w1 hb=>H4.out w1 hb id)
     have hnd:jf T id=jE id y:=by unfold jf;rw[hy]
     rw[hnd]at wQ
     unfold jE at wQ
     have uF:=Lib.hid (fun w1 hb=>H5.out w1 hb d2 n2)
     have Zx:Hid (∀w1,Below w.heap.size w w1→FP r w1 id (iB T 8 id)):=fun w1 hb=>Dc hT 8 id w1 (h.below hb (Nat.le_refl _)) (by rw[hy];rfl) (hO.Ik id) (by omega)
     have P6:iB T 8 id≤8:=(hO.Ik id).le
     clear h3 hd2 hn2 hnd
     by_cases hk:y.kind=2
     ·rw[hk]at wQ
      cases hw:jk ls' ls with
      |true=>
       rw[hw]at HW
       rw[if_pos ⟨hk,hw⟩]at hre
       have HQ:=Lib.hid (jg hre (by omega))
       clear hk hw hp0 Hg
       clear h hO hT hS hS' hE H4 H5 hl2 hy hre hln uQ hpl hx2 yT
       go_enter Tryz.func98,Tryz.ntmps98
       go_wp2_with fail
       (with_reducible refine H1.out.mono ?_)
       rintro e w1 ⟨rfl,hb1⟩
       have HB1:=Lib.hid hb1
       clear hb1
       go_wp2_with fail
       (with_reducible refine(H2.out w1 HB1.out).mono ?_)
       rintro e w2 ⟨rfl,hb2⟩
       have HB2:=Lib.hid (HB1.out.trans (hb2.mono HB1.out.size))
       clear hb2
       go_wp2_with fail
       (with_reducible refine(H3.out w2 HB2.out).mono ?_)
       rintro e w3 ⟨rfl,hb3⟩
       have HB3:=Lib.hid (HB2.out.trans (hb3.mono HB2.out.size))
       clear hb3
       go_wp2_with fail
       (with_reducible refine(wQ.out w3 HB3.out).mono ?_)
       rintro e w4 ⟨rfl,hb4⟩
       have eO:=Lib.hid (HB3.out.trans (hb4.mono HB3.out.size))
       have z_:=eO.out.size
       clear hb4
       go_wp2_with fail
       (with_reducible refine(HW.out _ (eO.out.trans ((wall w4 _).mono eO.out.size))).mono ?_)
       rintro e w5 ⟨rfl,hb5⟩
       have iW:=Lib.hid ((eO.out.trans ((wall w4 _).mono eO.out.size)).trans (hb5.mono (by simp;omega)))
       have q1:w5.cell? ⟨w4.heap.size,1,none⟩=some (.int .i64 2):=by rw[hb5.cell (p:=⟨w4.heap.size,1,none⟩) (by simp)];exact fU w4 _ _ 1
       have Hf:w4.heap.size<w5.heap.size:=by have:=hb5.size;simp at this;omega
       clear hb5
       go_wp2_with fail
       go_ret
       exact bX.no HH.out iW.out HQ.out
      |false=>
       rw[hw]at HW
       rw[if_neg (by rw[hw];simp)]at hre
       clear hw
       cases hn:aj n2 x2.names with
       |some j=>
        obtain⟨m,hm1,hm2⟩:=qh HT.out.toyQ hx2 hn
        rw[hm1]at uF
        rw[hn]at hre
        simp only at hre
        have m0:¬(m:Int)<0:=by omega
        have m1:(0:Int)≤m:=by omega
        have QO:=Lib.hid (fun w1 (hb:Below w.heap.size w w1)=>Df d2 n2 id j x2 w1 (h.below hb (Nat.le_refl _)) hT hx2 hn)
        by_cases hj:j=id
        ·rw[if_pos hj]at hre
         rw[if_pos hj]at QO
         have HQ:Hid (bB T ls ls'=(0,T)):=by
          show bB T ls ls'=_
          unfold bB
          rw[hre,hpl]
          simp only
          rw[if_neg (fun hh=>by have h2:=hh.2;rw[dK hx2,hn]at h2;cases h2)]
         clear hn hm1 hm2 hk hp0 Hg hj
         clear h hO hT hS hS' hE H4 H5 hl2 hy hre hln uQ hpl hx2 yT
         go_enter Tryz.func98,Tryz.ntmps98
         go_wp2_with fail
         (with_reducible refine H1.out.mono ?_)
         rintro e w1 ⟨rfl,hb1⟩
         have HB1:=Lib.hid hb1
         clear hb1
         go_wp2_with fail
         (with_reducible refine(H2.out w1 HB1.out).mono ?_)
         rintro e w2 ⟨rfl,hb2⟩
         have HB2:=Lib.hid (HB1.out.trans (hb2.mono HB1.out.size))
         clear hb2
         go_wp2_with fail
         (with_reducible refine(H3.out w2 HB2.out).mono ?_)
         rintro e w3 ⟨rfl,hb3⟩
         have HB3:=Lib.hid (HB2.out.trans (hb3.mono HB2.out.size))
         clear hb3
         go_wp2_with fail
         (with_reducible refine(wQ.out w3 HB3.out).mono ?_)
         rintro e w4 ⟨rfl,hb4⟩
         have eO:=Lib.hid (HB3.out.trans (hb4.mono HB3.out.size))
         have z_:=eO.out.size
         clear hb4
         go_wp2_with fail
         (with_reducible refine(HW.out _ (eO.out.trans ((wall w4 _).mono eO.out.size))).mono ?_)
         rintro e w5 ⟨rfl,hb5⟩
         have iW:=Lib.hid ((eO.out.trans ((wall w4 _).mono eO.out.size)).trans (hb5.mono (by simp;omega)))
         have q1:w5.cell? ⟨w4.heap.size,1,none⟩=some (.int .i64 2):=by rw[hb5.cell (p:=⟨w4.heap.size,1,none⟩) (by simp)];exact fU w4 _ _ 1
         have Hf:w4.heap.size<w5.heap.size:=by have:=hb5.size;simp at this;omega
         clear hb5
         go_wp2_with fail
         (with_reducible refine(uF.out w5 iW.out).mono ?_)
         rintro e w6 ⟨rfl,rfl⟩
         go_wp2_with fail
         (with_reducible refine(QO.out w5 iW.out).mono ?_)
         rintro e w6 ⟨rfl,hb6⟩
         have ou:=Lib.hid (iW.out.trans (hb6.mono iW.out.size))
         clear hb6
         go_wp2_with fail
         go_ret
         exact bX.no HH.out ou.out HQ.out
        ·rw[if_neg hj]at hre
         rw[if_neg hj]at QO
         have HQ:=Lib.hid (jg hre (by omega))
         clear hn hm1 hm2 hk hp0 Hg hj
         clear h hO hT hS hS' hE H4 H5 hl2 hy hre hln uQ hpl hx2 yT
         go_enter Tryz.func98,Tryz.ntmps98
         go_wp2_with fail
         (with_reducible refine H1.out.mono ?_)
         rintro e w1 ⟨rfl,hb1⟩
         have HB1:=Lib.hid hb1
         clear hb1
         go_wp2_with fail
         (with_reducible refine(H2.out w1 HB1.out).mono ?_)
         rintro e w2 ⟨rfl,hb2⟩
         have HB2:=Lib.hid (HB1.out.trans (hb2.mono HB1.out.size))
         clear hb2
         go_wp2_with fail
         (with_reducible refine(H3.out w2 HB2.out).mono ?_)
         rintro e w3 ⟨rfl,hb3⟩
         have HB3:=Lib.hid (HB2.out.trans (hb3.mono HB2.out.size))
         clear hb3
         go_wp2_with fail
         (with_reducible refine(wQ.out w3 HB3.out).mono ?_)
         rintro e w4 ⟨rfl,hb4⟩
         have eO:=Lib.hid (HB3.out.trans (hb4.mono HB3.out.size))
         have z_:=eO.out.size
         clear hb4
         go_wp2_with fail
         (with_reducible refine(HW.out _ (eO.out.trans ((wall w4 _).mono eO.out.size))).mono ?_)
         rintro e w5 ⟨rfl,hb5⟩
         have iW:=Lib.hid ((eO.out.trans ((wall w4 _).mono eO.out.size)).trans (hb5.mono (by simp;omega)))
         have q1:w5.cell? ⟨w4.heap.size,1,none⟩=some (.int .i64 2):=by rw[hb5.cell (p:=⟨w4.heap.size,1,none⟩) (by simp)];exact fU w4 _ _ 1
         have Hf:w4.heap.size<w5.heap.size:=by have:=hb5.size;simp at this;omega
         clear hb5
         go_wp2_with fail
         (with_reducible refine(uF.out w5 iW.out).mono ?_)
         rintro e w6 ⟨rfl,rfl⟩
         go_wp2_with fail
         (with_reducible refine(QO.out w5 iW.out).mono ?_)
         rintro e w6 ⟨rfl,hb6⟩
         have ou:=Lib.hid (iW.out.trans (hb6.mono iW.out.size))
         clear hb6
         go_wp2_with fail
         go_ret
         exact bX.no HH.out ou.out HQ.out
       |none=>
        rw[sj HT.out.sorted hx2 hn]at uF
        rw[hn]at hre
        simp only at hre
        by_cases h8:8<ls'.length+iB T 8 id
        ·rw[if_pos h8]at hre
         have HQ:=Lib.hid (jg hre (by omega))
         rw[uQ]at h8
         generalize iB T 8 id=dm at*
         have e1:IntKind.i64.wrap ((dm:Int)+(n':Int))=(dm:Int)+(n':Int):=IntWalk.i64_in _ (by omega)
         have e2:decide ((8:Int)<(dm:Int)+(n':Int))=true:=by simp;omega
         clear hn h8 hk hp0 Hg
         clear h hO hT hS hS' hE H4 H5 hl2 hy hre hln uQ hpl hx2 yT
         go_enter Tryz.func98,Tryz.ntmps98
         go_wp2_with fail
         (with_reducible refine H1.out.mono ?_)
         rintro e w1 ⟨rfl,hb1⟩
         have HB1:=Lib.hid hb1
         clear hb1
         go_wp2_with fail
         (with_reducible refine(H2.out w1 HB1.out).mono ?_)
         rintro e w2 ⟨rfl,hb2⟩
         have HB2:=Lib.hid (HB1.out.trans (hb2.mono HB1.out.size))
         clear hb2
         go_wp2_with fail
         (with_reducible refine(H3.out w2 HB2.out).mono ?_)
         rintro e w3 ⟨rfl,hb3⟩
         have HB3:=Lib.hid (HB2.out.trans (hb3.mono HB2.out.size))
         clear hb3
         go_wp2_with fail
         (with_reducible refine(wQ.out w3 HB3.out).mono ?_)
         rintro e w4 ⟨rfl,hb4⟩
         have eO:=Lib.hid (HB3.out.trans (hb4.mono HB3.out.size))
         have z_:=eO.out.size
         clear hb4
         go_wp2_with fail
         (with_reducible refine(HW.out _ (eO.out.trans ((wall w4 _).mono eO.out.size))).mono ?_)
         rintro e w5 ⟨rfl,hb5⟩
         have iW:=Lib.hid ((eO.out.trans ((wall w4 _).mono eO.out.size)).trans (hb5.mono (by simp;omega)))
         have q1:w5.cell? ⟨w4.heap.size,1,none⟩=some (.int .i64 2):=by rw[hb5.cell (p:=⟨w4.heap.size,1,none⟩) (by simp)];exact fU w4 _ _ 1
         have Hf:w4.heap.size<w5.heap.size:=by have:=hb5.size;simp at this;omega
         clear hb5
         go_wp2_with fail
         (with_reducible refine(uF.out w5 iW.out).mono ?_)
         rintro e w6 ⟨rfl,rfl⟩
         go_wp2_with fail
         (with_reducible refine Calls.mono (Zx.out w5 iW.out) ?_)
         rintro e w6 ⟨rfl,hb6⟩
         have ou:=Lib.hid (iW.out.trans (hb6.mono iW.out.size))
         clear hb6
         go_wp2_with fail
         go_ret
         exact bX.no HH.out ou.out HQ.out
        ·rw[if_neg h8]at hre
         have hls:ls≠[]:=hp0
         obtain⟨d1,x1,n1,hp1,hp2,hx1,Ei,II,hm1,-⟩:=dB hl2 hls
         rw[hp1]at Hg
         simp only at Hg
         have BN:=Lib.hid ((su.of hT).cut d1 n1)
         obtain⟨k1,IJ,-⟩:=vU (su.of hT) hx1 II
         have Xi:=Lib.hid (fun w1 hb=>H5.out w1 hb d1 n1)
         rw[IJ]at Xi
         have He:Hid (∀w4,Below w.heap.size w w4→Calls Tryz.prog 74 #[ptr r, .int .i64 k1] w4 (bX F w4 r (aF T d1 n1) (.tuple #[]))):=fun w4 hb=>by
          obtain⟨k',hk',hc'⟩:=zi d1 n1 id x1 w4 (h.below hb (Nat.le_refl _)) (su.of hT) hx1 II
          rw[IJ]at hk'
          have:k1=k':=by omega
          rw[this]
          exact hc'
         have SX:Hid (aj d2 (aF T d1 n1)=some (if d2=d1 then{x2 with names:=bR n1 x2.names}else x2)∧aj n2 (if d2=d1 then{x2 with names:=bR n1 x2.names}else x2:bW).names=none):=by
          refine⟨?_,?_⟩
          ·unfold aF
           rw[bq,hx2]
           split<;>rfl
          ·split
           ·show aj n2 (bR n1 x2.names)=none
            rw[fO,hn]
            split<;>rfl
           ·exact hn
         have HQ:Hid (bB T ls ls'=(0,setName (aF T d1 n1) d2 n2 id)):=by
          show bB T ls ls'=_
          unfold bB qg
          rw[hre,hpl,hp1,hl2]
          simp only
          rw[if_pos (by rw[dK hx2,hn];simp)]
         rw[uQ]at h8
         generalize iB T 8 id=dm at*
         have e1:IntKind.i64.wrap ((dm:Int)+(n':Int))=(dm:Int)+(n':Int):=IntWalk.i64_in _ (by omega)
         have e2:decide ((8:Int)<(dm:Int)+(n':Int))=false:=by simp;omega
         clear hn h8 hls hp1 hp2 hx1 Ei II hm1 IJ hk hp0
         clear h hO hT hS hS' hE H4 H5 hl2 hy hre hln uQ hpl hx2 yT
         go_enter Tryz.func98,Tryz.ntmps98
         go_wp2_with fail
         (with_reducible refine H1.out.mono ?_)
         rintro e w1 ⟨rfl,hb1⟩
         have HB1:=Lib.hid hb1
         clear hb1
         go_wp2_with fail
         (with_reducible refine(H2.out w1 HB1.out).mono ?_)
         rintro e w2 ⟨rfl,hb2⟩
         have HB2:=Lib.hid (HB1.out.trans (hb2.mono HB1.out.size))
         clear hb2
         go_wp2_with fail
         (with_reducible refine(H3.out w2 HB2.out).mono ?_)
         rintro e w3 ⟨rfl,hb3⟩
         have HB3:=Lib.hid (HB2.out.trans (hb3.mono HB2.out.size))
         clear hb3
         go_wp2_with fail
         (with_reducible refine(wQ.out w3 HB3.out).mono ?_)
         rintro e w4 ⟨rfl,hb4⟩
         have eO:=Lib.hid (HB3.out.trans (hb4.mono HB3.out.size))
         have z_:=eO.out.size
         clear hb4
         go_wp2_with fail
         (with_reducible refine(HW.out _ (eO.out.trans ((wall w4 _).mono eO.out.size))).mono ?_)
         rintro e w5 ⟨rfl,hb5⟩
         have iW:=Lib.hid ((eO.out.trans ((wall w4 _).mono eO.out.size)).trans (hb5.mono (by simp;omega)))
         have q1:w5.cell? ⟨w4.heap.size,1,none⟩=some (.int .i64 2):=by rw[hb5.cell (p:=⟨w4.heap.size,1,none⟩) (by simp)];exact fU w4 _ _ 1
         have Hf:w4.heap.size<w5.heap.size:=by have:=hb5.size;simp at this;omega
         clear hb5
         go_wp2_with fail
         (with_reducible refine(uF.out w5 iW.out).mono ?_)
         rintro e w6 ⟨rfl,rfl⟩
         go_wp2_with fail
         (with_reducible refine Calls.mono (Zx.out w5 iW.out) ?_)
         rintro e w6 ⟨rfl,hb6⟩
         have ou:=Lib.hid (iW.out.trans (hb6.mono iW.out.size))
         clear hb6
         go_wp2_with fail
         (with_reducible refine(Hg.out w6 ou.out).mono ?_)
         rintro e w8 ⟨rfl,uR⟩
         have vY:=Lib.hid (ou.out.trans (uR.mono ou.out.size))
         clear uR
         go_wp2_with fail
         (with_reducible refine(Xi.out w8 vY.out).mono ?_)
         rintro e w9 ⟨rfl,rfl⟩
         go_wp2_with fail
         (with_reducible refine(He.out w8 vY.out).mono ?_)
         rintro e w9 Zy
         obtain⟨rfl,Xj,Uv⟩:=Zy
         have HAD:=Lib.hid (vV d2 n2 id _ w9 Uv BN.out SX.out.1 SX.out.2)
         have Zz:Hid (bX F w8 r (aF T d1 n1) (.tuple #[]) (.returned (.tuple #[])) w9):=⟨rfl,Xj,Uv⟩
         clear Xj Uv
         go_wp2_with fail
         (with_reducible refine HAD.out.mono ?_)
         rintro e IK IL
         have Uw:=Lib.hid IL
         obtain rfl:=IL.1
         clear IL
         go_wp2_with fail
         go_ret
         rw[HQ.out]
         exact(dY.behind HH.out.low vY.out (Zz.out.trans (HH.out.below vY.out (Nat.le_refl _)).low Uw.out)).val _
     ·have hkb:(y.kind==2)=false:=by simpa using hk
      rw[if_neg (fun h=>hk h.1)]at hre
      cases hn:aj n2 x2.names with
      |some j=>
       obtain⟨m,hm1,hm2⟩:=qh HT.out.toyQ hx2 hn
       rw[hm1]at uF
       rw[hn]at hre
       simp only at hre
       have m0:¬(m:Int)<0:=by omega
       have m1:(0:Int)≤m:=by omega
       have QO:=Lib.hid (fun w1 (hb:Below w.heap.size w w1)=>Df d2 n2 id j x2 w1 (h.below hb (Nat.le_refl _)) hT hx2 hn)
       by_cases hj:j=id
       ·rw[if_pos hj]at hre
        rw[if_pos hj]at QO
        have HQ:Hid (bB T ls ls'=(0,T)):=by
         show bB T ls ls'=_
         unfold bB
         rw[hre,hpl]
         simp only
         rw[if_neg (fun hh=>by have h2:=hh.2;rw[dK hx2,hn]at h2;cases h2)]
        clear hn hm1 hm2 hk hp0 Hg hj
        clear h hO hT hS hS' hE H4 H5 hl2 hy hre hln uQ hpl hx2 yT
        go_enter Tryz.func98,Tryz.ntmps98
        go_wp2_with fail
        (with_reducible refine H1.out.mono ?_)
        rintro e w1 ⟨rfl,hb1⟩
        have HB1:=Lib.hid hb1
        clear hb1
        go_wp2_with fail
        (with_reducible refine(H2.out w1 HB1.out).mono ?_)
        rintro e w2 ⟨rfl,hb2⟩
        have HB2:=Lib.hid (HB1.out.trans (hb2.mono HB1.out.size))
        clear hb2
        go_wp2_with fail
        (with_reducible refine(H3.out w2 HB2.out).mono ?_)
        rintro e w3 ⟨rfl,hb3⟩
        have HB3:=Lib.hid (HB2.out.trans (hb3.mono HB2.out.size))
        clear hb3
        go_wp2_with fail
        (with_reducible refine(wQ.out w3 HB3.out).mono ?_)
        rintro e w4 ⟨rfl,hb4⟩
        have eO:=Lib.hid (HB3.out.trans (hb4.mono HB3.out.size))
        have z_:=eO.out.size
        clear hb4
        go_wp2_with fail
        have iW:=Lib.hid (eO.out.trans ((wall w4 (.cells #[.int .i64 id, .int .i64 y.kind, .int .i64 y.links, .int .i64 y.b.length, .int .u64 y.aQ, .bool y.closed] 90)).mono eO.out.size))
        have q1:(w4.alloc (.cells #[.int .i64 id, .int .i64 y.kind, .int .i64 y.links, .int .i64 y.b.length, .int .u64 y.aQ, .bool y.closed] 90)).cell? ⟨w4.heap.size,1,none⟩=some (.int .i64 y.kind):=fU w4 _ _ 1
        have Hf:w4.heap.size<(w4.alloc (.cells #[.int .i64 id, .int .i64 y.kind, .int .i64 y.links, .int .i64 y.b.length, .int .u64 y.aQ, .bool y.closed] 90)).heap.size:=by simp
        generalize (w4.alloc (.cells #[.int .i64 id, .int .i64 y.kind, .int .i64 y.links, .int .i64 y.b.length, .int .u64 y.aQ, .bool y.closed] 90))=w5 at*
        (with_reducible refine(uF.out w5 iW.out).mono ?_)
        rintro e w6 ⟨rfl,rfl⟩
        go_wp2_with fail
        (with_reducible refine(QO.out w5 iW.out).mono ?_)
        rintro e w6 ⟨rfl,hb6⟩
        have ou:=Lib.hid (iW.out.trans (hb6.mono iW.out.size))
        clear hb6
        go_wp2_with fail
        go_ret
        exact bX.no HH.out ou.out HQ.out
       ·rw[if_neg hj]at hre
        rw[if_neg hj]at QO
        have HQ:=Lib.hid (jg hre (by omega))
        clear hn hm1 hm2 hk hp0 Hg hj
        clear h hO hT hS hS' hE H4 H5 hl2 hy hre hln uQ hpl hx2 yT
        go_enter Tryz.func98,Tryz.ntmps98
        go_wp2_with fail
        (with_reducible refine H1.out.mono ?_)
        rintro e w1 ⟨rfl,hb1⟩
        have HB1:=Lib.hid hb1
        clear hb1
        go_wp2_with fail
        (with_reducible refine(H2.out w1 HB1.out).mono ?_)
        rintro e w2 ⟨rfl,hb2⟩
        have HB2:=Lib.hid (HB1.out.trans (hb2.mono HB1.out.size))
        clear hb2
        go_wp2_with fail
        (with_reducible refine(H3.out w2 HB2.out).mono ?_)
        rintro e w3 ⟨rfl,hb3⟩
        have HB3:=Lib.hid (HB2.out.trans (hb3.mono HB2.out.size))
        clear hb3
        go_wp2_with fail
        (with_reducible refine(wQ.out w3 HB3.out).mono ?_)
        rintro e w4 ⟨rfl,hb4⟩
        have eO:=Lib.hid (HB3.out.trans (hb4.mono HB3.out.size))
        have z_:=eO.out.size
        clear hb4
        go_wp2_with fail
        have iW:=Lib.hid (eO.out.trans ((wall w4 (.cells #[.int .i64 id, .int .i64 y.kind, .int .i64 y.links, .int .i64 y.b.length, .int .u64 y.aQ, .bool y.closed] 90)).mono eO.out.size))
        have q1:(w4.alloc (.cells #[.int .i64 id, .int .i64 y.kind, .int .i64 y.links, .int .i64 y.b.length, .int .u64 y.aQ, .bool y.closed] 90)).cell? ⟨w4.heap.size,1,none⟩=some (.int .i64 y.kind):=fU w4 _ _ 1
        have Hf:w4.heap.size<(w4.alloc (.cells #[.int .i64 id, .int .i64 y.kind, .int .i64 y.links, .int .i64 y.b.length, .int .u64 y.aQ, .bool y.closed] 90)).heap.size:=by simp
        generalize (w4.alloc (.cells #[.int .i64 id, .int .i64 y.kind, .int .i64 y.links, .int .i64 y.b.length, .int .u64 y.aQ, .bool y.closed] 90))=w5 at*
        (with_reducible refine(uF.out w5 iW.out).mono ?_)
        rintro e w6 ⟨rfl,rfl⟩
        go_wp2_with fail
        (with_reducible refine(QO.out w5 iW.out).mono ?_)
        rintro e w6 ⟨rfl,hb6⟩
        have ou:=Lib.hid (iW.out.trans (hb6.mono iW.out.size))
        clear hb6
        go_wp2_with fail
        go_ret
        exact bX.no HH.out ou.out HQ.out
      |none=>
       rw[sj HT.out.sorted hx2 hn]at uF
       rw[hn]at hre
       simp only at hre
       have hdz:iB T 8 id=0:=Ae hT (by rw[bQ hy];exact hk) 8
       rw[if_neg (by rw[hdz,uQ];omega)]at hre
       have hls:ls≠[]:=hp0
       obtain⟨d1,x1,n1,hp1,hp2,hx1,Ei,II,hm1,-⟩:=dB hl2 hls
       rw[hp1]at Hg
       simp only at Hg
       have BN:=Lib.hid ((su.of hT).cut d1 n1)
       obtain⟨k1,IJ,-⟩:=vU (su.of hT) hx1 II
       have Xi:=Lib.hid (fun w1 hb=>H5.out w1 hb d1 n1)
       rw[IJ]at Xi
       have He:Hid (∀w4,Below w.heap.size w w4→Calls Tryz.prog 74 #[ptr r, .int .i64 k1] w4 (bX F w4 r (aF T d1 n1) (.tuple #[]))):=fun w4 hb=>by
        obtain⟨k',hk',hc'⟩:=zi d1 n1 id x1 w4 (h.below hb (Nat.le_refl _)) (su.of hT) hx1 II
        rw[IJ]at hk'
        have:k1=k':=by omega
        rw[this]
        exact hc'
       have SX:Hid (aj d2 (aF T d1 n1)=some (if d2=d1 then{x2 with names:=bR n1 x2.names}else x2)∧aj n2 (if d2=d1 then{x2 with names:=bR n1 x2.names}else x2:bW).names=none):=by
        refine⟨?_,?_⟩
        ·unfold aF
         rw[bq,hx2]
         split<;>rfl
        ·split
         ·show aj n2 (bR n1 x2.names)=none
          rw[fO,hn]
          split<;>rfl
         ·exact hn
       have HQ:Hid (bB T ls ls'=(0,setName (aF T d1 n1) d2 n2 id)):=by
        show bB T ls ls'=_
        unfold bB qg
        rw[hre,hpl,hp1,hl2]
        simp only
        rw[if_pos (by rw[dK hx2,hn];simp)]
       clear hn hls hp1 hp2 hx1 Ei II hm1 IJ hk hp0 hdz Zx P6
       clear h hO hT hS hS' hE H4 H5 hl2 hy hre hln uQ hpl hx2 yT
       go_enter Tryz.func98,Tryz.ntmps98
       go_wp2_with fail
       (with_reducible refine H1.out.mono ?_)
       rintro e w1 ⟨rfl,hb1⟩
       have HB1:=Lib.hid hb1
       clear hb1
       go_wp2_with fail
       (with_reducible refine(H2.out w1 HB1.out).mono ?_)
       rintro e w2 ⟨rfl,hb2⟩
       have HB2:=Lib.hid (HB1.out.trans (hb2.mono HB1.out.size))
       clear hb2
       go_wp2_with fail
       (with_reducible refine(H3.out w2 HB2.out).mono ?_)
       rintro e w3 ⟨rfl,hb3⟩
       have HB3:=Lib.hid (HB2.out.trans (hb3.mono HB2.out.size))
       clear hb3
       go_wp2_with fail
       (with_reducible refine(wQ.out w3 HB3.out).mono ?_)
       rintro e w4 ⟨rfl,hb4⟩
       have eO:=Lib.hid (HB3.out.trans (hb4.mono HB3.out.size))
       have z_:=eO.out.size
       clear hb4
       go_wp2_with fail
       have iW:=Lib.hid (eO.out.trans ((wall w4 (.cells #[.int .i64 id, .int .i64 y.kind, .int .i64 y.links, .int .i64 y.b.length, .int .u64 y.aQ, .bool y.closed] 90)).mono eO.out.size))
       have q1:(w4.alloc (.cells #[.int .i64 id, .int .i64 y.kind, .int .i64 y.links, .int .i64 y.b.length, .int .u64 y.aQ, .bool y.closed] 90)).cell? ⟨w4.heap.size,1,none⟩=some (.int .i64 y.kind):=fU w4 _ _ 1
       have Hf:w4.heap.size<(w4.alloc (.cells #[.int .i64 id, .int .i64 y.kind, .int .i64 y.links, .int .i64 y.b.length, .int .u64 y.aQ, .bool y.closed] 90)).heap.size:=by simp
       generalize (w4.alloc (.cells #[.int .i64 id, .int .i64 y.kind, .int .i64 y.links, .int .i64 y.b.length, .int .u64 y.aQ, .bool y.closed] 90))=w5 at*
       (with_reducible refine(uF.out w5 iW.out).mono ?_)
       rintro e w6 ⟨rfl,rfl⟩
       go_wp2_with fail
       (with_reducible refine(Hg.out w5 iW.out).mono ?_)
       rintro e w8 ⟨rfl,uR⟩
       have vY:=Lib.hid (iW.out.trans (uR.mono iW.out.size))
       clear uR
       go_wp2_with fail
       (with_reducible refine(Xi.out w8 vY.out).mono ?_)
       rintro e w9 ⟨rfl,rfl⟩
       go_wp2_with fail
       (with_reducible refine(He.out w8 vY.out).mono ?_)
       rintro e w9 Zy
       obtain⟨rfl,Xj,Uv⟩:=Zy
       have HAD:=Lib.hid (vV d2 n2 id _ w9 Uv BN.out SX.out.1 SX.out.2)
       have Zz:Hid (bX F w8 r (aF T d1 n1) (.tuple #[]) (.returned (.tuple #[])) w9):=⟨rfl,Xj,Uv⟩
       clear Xj Uv
       go_wp2_with fail
       (with_reducible refine HAD.out.mono ?_)
       rintro e IK IL
       have Uw:=Lib.hid IL
       obtain rfl:=IL.1
       clear IL
       go_wp2_with fail
       go_ret
       rw[HQ.out]
       exact(dY.behind HH.out.low vY.out (Zz.out.trans (HH.out.below vY.out (Nat.le_refl _)).low Uw.out)).val _
    ·rw[if_pos h3]at hre
     have HQ:=Lib.hid (jg hre h3)
     generalize aI T ls'=pl at*
     obtain⟨d2,n2,e2⟩:=pl
     simp only at h3 HQ H3
     have hne:(e2==0)=false:=by simpa using h3
     have hne2:(e2 !=0)=true:=by simpa using h3
     clear h hO hT hS hS' hE hl2 hy hre hp0 hln uQ h3 Hg
     go_enter Tryz.func98,Tryz.ntmps98
     go_wp2_with fail
     (with_reducible refine H1.out.mono ?_)
     rintro e w1 ⟨rfl,hb1⟩
     have HB1:=Lib.hid hb1
     clear hb1
     go_wp2_with fail
     (with_reducible refine(H2.out w1 HB1.out).mono ?_)
     rintro e w2 ⟨rfl,hb2⟩
     have HB2:=Lib.hid (HB1.out.trans (hb2.mono HB1.out.size))
     clear hb2
     go_wp2_with fail
     (with_reducible refine(H3.out w2 HB2.out).mono ?_)
     rintro e w3 ⟨rfl,hb3⟩
     have HB3:=Lib.hid (HB2.out.trans (hb3.mono HB2.out.size))
     clear hb3
     go_wp2_with fail
     go_ret
     exact bX.no HH.out HB3.out HQ.out
  ·have HQ:Hid (bB T ls ls'=((aH T 0 ls).2,T)):=jg (by unfold iM;rw[h0,if_neg (by simp),if_pos h1]) h1
   generalize aH T 0 ls=lk at*
   obtain⟨id,e1⟩:=lk
   simp only at h1 H2 HQ
   have hne:(e1==0)=false:=by simpa using h1
   have hne2:(e1 !=0)=true:=by simpa using h1
   clear h hO hT hS hS' hE h0 h1 hln uQ Hg
   go_enter Tryz.func98,Tryz.ntmps98
   go_wp2_with fail
   (with_reducible refine H1.out.mono ?_)
   rintro e w1 ⟨rfl,hb1⟩
   have HB1:=Lib.hid hb1
   clear hb1
   go_wp2_with fail
   (with_reducible refine(H2.out w1 HB1.out).mono ?_)
   rintro e w2 ⟨rfl,hb2⟩
   have HB2:=Lib.hid (HB1.out.trans (hb2.mono HB1.out.size))
   clear hb2
   go_wp2_with fail
   go_ret
   exact bX.no HH.out HB2.out HQ.out
 ·have HQ:Hid (bB T ls ls'=(je ls ls',T)):=jg (by unfold iM;rw[if_pos h0]) h0
  generalize je ls ls'=f0 at*
  have hne:(f0==0)=false:=by simpa using h0
  have hne2:(f0 !=0)=true:=by simpa using h0
  clear h hO hT hS hS' hE h0 hln uQ Hg
  go_enter Tryz.func98,Tryz.ntmps98
  go_wp2_with fail
  (with_reducible refine H1.out.mono ?_)
  rintro e w1 ⟨rfl,hb1⟩
  have HB1:=Lib.hid hb1
  clear hb1
  go_wp2_with fail
  go_ret
  exact bX.no HH.out HB1.out HQ.out
end
end Go.Proofs.YtmabllemjkcobaaGreat
