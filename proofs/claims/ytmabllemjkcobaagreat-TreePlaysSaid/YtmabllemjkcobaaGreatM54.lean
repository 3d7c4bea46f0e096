/- TreePlays: the walk. -/
import Derived.Test.YtmabllemjkcobaaGreatM50
import Derived.Test.YtmabllemjkcobaaGreatM52
import Derived.Test.YtmabllemjkcobaaGreatM53
namespace Go.Proofs.YtmabllemjkcobaaGreat.treePlays
open Go.ChangeShapes Go.WideShapes Go.ChangeAt Go.RowKit
set_option linter.unusedVariables false
set_option linter.unusedSimpArgs false
theorem SC {w w':World} {S:Nat→Prop} {vals:List Value} {l:List (List Nm)} (h:iU S w vals l) (hb:Below w.heap.size w w'):iU S w' vals l:=h.move hb.size fun b hb' hbw=>⟨hb',hb.block b hbw⟩
set_option maxRecDepth 100000 in
set_option maxHeartbeats 8000000 in
theorem walk {H:Type} {enc:TypeId×Value→H} (W:World) (base:Nat) (v0:Value) (d0:DataW H) (p0:List MemPlace) (o0:Value.okWide Tryz.prog W .any base 71 v0) (h0:DataW.Trod enc Tryz.prog W 0 (fun _=>true) true 71 v0 d0 p0) (l0:∀x∈p0,x.block<W.heap.size) (hsz:(DataW.weightsEach Tryz.prog [71] ([d0]:List (DataW H))).all (· ≤reachBytes)=true):
  Calls Tryz.prog 9 #[v0] W (WG W):=by
 obtain⟨a,len,cap,rfl,hlc,hA⟩:∃a len cap,v0= .slice a len cap∧len≤cap∧FZ W a len:=by
  obtain⟨a0,len,cap,rfl⟩:=okWide_slice Tryz.underlying71 o0
  obtain⟨fuel,hf⟩:=h0
  refine sI hf l0 fun n hn=> ?_
  have h1:=List.all_eq_true.1 hsz n (List.mem_append_left _ hn)
  simpa using h1
 have hlm:=hA.1
 unfold maxLen at hlm
 have HA:=Lib.hid hA
 clear o0 h0 l0 hsz hlc hA
 go_enter Tryz.func9,Tryz.ntmps9
 go_wp2_with fail
 (with_reducible refine(Ih W W (Below.refl _ _)).mono ?_)
 rintro e w1 ⟨t,rfl,hT1,hb1⟩
 have HT1:=Lib.hid hT1
 have HB1:=Lib.hid hb1
 clear hT1 hb1
 go_wp2_with fail
 (with_reducible refine(Ao w1).mono ?_)
 rintro e w2 ⟨r,rfl,hR,hb2⟩
 have hs1:=HB1.out.size
 have hs2:=hb2.size
 have wR:jq W (fun x=>x<W.heap.size) (fun x=>x<W.heap.size∨(w1.heap.size≤x∧x<w2.heap.size)) (fun x=>w1.heap.size≤x∧x<w2.heap.size) w2 t r l9:=by
  refine⟨HT1.out.zJ hb2,hR,fun x hx=>⟨.inr hx,by have:=hx.1;omega⟩,fun x hx=>⟨.inl hx,fun hf=>by have:=hf.1;omega⟩,oM.new⟩
 have HST:Hid (nI W W t r w2):=⟨l9,⟨_,_,wR⟩,HB1.out.trans (hb2.mono hs1)⟩
 clear hR hb2 wR
 go_upto_block 0 with(fail)
 go_cut [5]from 16 to 33 (fun i wx=>nI W W t r wx)
 case first=>
  go_wp2_with fail
  go_loopw [5] (fun i wr=>∃k:Nat,i= .int .i64 k∧k≤60∧nI W W t r wr) (fun i _=>60-(intOf i).toNat)
  case atStart=>exact⟨0,rfl,by omega,HST.out⟩
  case round=>
   obtain⟨k,rfl,hk40,hP⟩:=hrel
   have HP:=Lib.hid hP
   clear hP
   by_cases hlt:k<len
   ·have hd1:decide (k<len)=true:=by simpa using hlt
    by_cases h40:k<60
    ·obtain⟨g,off,rfl,hgw,hAk⟩:=HA.out.2 (by omega)
     obtain⟨x,ba,bn,bc,hx⟩:=hAk k hlt
     obtain⟨T,⟨P,F,wR⟩,hbw⟩:=HP.out
     have hbW:=wR.tree.below
     obtain⟨d0,d1,d2,d3,d4,d5,d6,d7,d8⟩:=hx.cells
     have c0:=(hbW.cell (p:=⟨g,off+k*9,none⟩) hgw).trans d0
     have c1:=(hbW.cell (p:=⟨g,off+k*9+1,none⟩) hgw).trans d1
     have c2:=(hbW.cell (p:=⟨g,off+k*9+2,none⟩) hgw).trans d2
     have c3:=(hbW.cell (p:=⟨g,off+k*9+3,none⟩) hgw).trans d3
     have c4:=(hbW.cell (p:=⟨g,off+k*9+4,none⟩) hgw).trans d4
     have c5:=(hbW.cell (p:=⟨g,off+k*9+5,none⟩) hgw).trans d5
     have c6:=(hbW.cell (p:=⟨g,off+k*9+6,none⟩) hgw).trans d6
     have c7:=(hbW.cell (p:=⟨g,off+k*9+7,none⟩) hgw).trans d7
     have c8:=(hbW.cell (p:=⟨g,off+k*9+8,none⟩) hgw).trans d8
     have Lv:=Lib.hid (FV x ba bn bc wR hx.ok (hx.row.below hbW (Nat.le_refl _)) hx.cap hx.reach)
     have XM:=Lib.hid hbw
     unfold oV at Lv
     have i0:(0:Int)≤(k:Int):=by omega
     have i1:(k:Int)<(len:Int):=by omega
     have i2:(k:Int)<60:=by omega
     have hd2:decide ((k:Int)<60)=true:=by simpa using i2
     clear hAk hx wR hbW d0 d1 d2 d3 d4 d5 d6 d7 d8 hbw
     go_wp2_with fail
     (with_reducible refine Lv.out.mono ?_)
     rintro e w3 ⟨rfl,T',XO,hkq,hsz,OL⟩
     have Ri:Hid (nI W W t r w3):=⟨T',XO,OL⟩
     clear XO hkq OL
     go_wp2_with fail
     go_roundw
     case rel=>exact⟨k+1,by go_num,by omega,Ri.out⟩
     case measure=>simp[intOf];omega
    ·have hd2:decide ((k:Int)<60)=false:=by simp;omega
     go_wp2_with fail
     go_meet
     exact HP.out
   ·have hd1:decide (k<len)=false:=by simpa using hlt
    go_wp2_with fail
    go_meet
    exact HP.out
 case rest=>
  obtain⟨T,⟨P,F,wR⟩,hbw⟩:=hcut
  obtain⟨w3,rfl⟩:∃w3:World,w3=wc:=⟨_,rfl⟩
  have gT:=Lib.hid wR
  have hO:=wR.okay.1
  have HO:=Lib.hid hO
  have HB3:=Lib.hid hbw
  have hs3:=hbw.size
  clear wR hbw hO
  go_wp2_with fail
  go_loopw [6] (fun iv wr=>∃k:Nat,k≤12∧iv= .int .i64 k∧Below w3.heap.size w3 wr) (fun iv _=>12-(intOf iv).toNat)
  case atStart=>exact⟨0,by omega,rfl,Below.refl _ _⟩
  case round=>
   obtain⟨k,hk,rfl,hB⟩:=hrel
   have G_:=hB.size
   by_cases hlt:k<12
   ·have hd1:decide ((k:Int)<12)=true:=by simp;omega
    have HB:=Lib.hid hB
    have QN:=Lib.hid (gT.out.tree.grow hB)
    have UW:=Lib.hid (Mk QN.out HO.out (k:Int))
    have MI:=Lib.hid hlt
    obtain⟨wo,rfl⟩:∃wo:World,wo=wr:=⟨_,rfl⟩
    clear hB hlt
    go_wp2_with fail
    (with_reducible refine UW.out.mono ?_)
    rintro e w4 ⟨aA,cA,vals,l,rfl,hlc,hp,hv,hrow,hb4,hwk⟩
    have hsame:=Sm HO.out hp (Sl hwk)
    have hln:=hp.length_eq
    have YC:=Ez HO.out (k:Int)
    have eO:=Lib.hid (HB.out.trans (hb4.mono G_))
    have hRf:=gT.out.ref.below (w':=w4) eO.out (Nat.le_refl _)
    have yR:=Lib.hid (jA (k:Int) w4 hRf HO.out.1.toyQ)
    obtain⟨n0,n1,n2,n3,n4,n5,hnd⟩:=wF T (k:Int)
    rw[hnd]at yR
    have hs4:=eO.out.size
    have HV:=Lib.hid hv
    have BQ:=Lib.hid hrow
    obtain⟨L,hL⟩:∃L,L=bI T 10 (k:Int):=⟨_,rfl⟩
    rw[←hL]at hsame
    subst hsame
    have Cw:=Lib.hid hL
    have Tn:Hid ((aj (k:Int) T).isSome=false→l=[]):=fun h=>by
     have h1:aj (k:Int) T=none:=by simpa using h
     rw[DI HO.out h1]at hp
     exact hp.eq_nil
    obtain⟨m,hm⟩:∃m,m=l.length:=⟨_,rfl⟩
    have hm64:m≤64:=by rw[hm,hln];exact YC
    rw[←hm]at BQ⊢
    have HM:=Lib.hid hm
    have Ll:Hid (∀w',Below w4.heap.size w4 w'→Calls Tryz.prog 58 #[ptr r, .int .i64 (k:Int)] w' (x9 w' l)):=fun w' hb=>by
     obtain⟨hT,dep,hd⟩:=HO.out
     rw[hL]
     exact Br hT hd 10 (k:Int) w' (hRf.below hb (Nat.le_refl _)) (PK T dep _)
    clear hp hv hrow hb4 hwk hln YC hRf hnd hL hm hlc
    cases hs:(aj (k:Int) T).isSome with
    |true=>
     rw[hs]at yR
     clear hs Tn
     go_wp2_with fail
     (with_reducible refine yR.out.mono ?_)
     rintro e w5 ⟨rfl,hb5⟩
     have V9:Below w4.heap.size w4 (w5.alloc (.cells #[.int .i64 n0, .int .i64 n1, .int .i64 n2, .int .i64 n3, .int .u64 n4, .bool n5] 90)):=hb5.trans ((wall w5 _).mono hb5.size)
     have RL:=Lib.hid (Ll.out _ V9)
     have iW:=Lib.hid V9
     clear hb5 V9
     go_wp2_with fail
     (with_reducible refine RL.out.mono ?_)
     rintro e w6 ⟨nv,rfl,hop,hb6⟩
     have SE:Below w4.heap.size w4 w6:=iW.out.trans (hb6.mono iW.out.size)
     have ou:=Lib.hid (eO.out.trans (SE.mono hs4))
     have HV6:=Lib.hid (SC HV.out SE)
     have O9:=Lib.hid (BQ.out.below SE (Nat.le_refl _))
     have sO:=Lib.hid hop
     obtain⟨aN,cN,rfl⟩:=hop.form
     rw[←HM.out]
     have hs6:=ou.out.size
     clear hop hb6 SE
     go_wp2_with fail
     go_loopw [11] (fun iv wr=>∃j:Nat,j≤m∧iv= .int .i64 j∧Below w6.heap.size w6 wr) (fun iv _=>m-(intOf iv).toNat)
     case atStart=>exact⟨0,Nat.zero_le _,rfl,Below.refl _ _⟩
     case round=>
      obtain⟨j,hj,rfl,yF⟩:=hrel
      have hs7:=yF.size
      have pO:=Lib.hid yF
      by_cases hjm:j<m
      ·have hd2:decide (j<m)=true:=by simpa using hjm
       obtain⟨q,hq⟩:∃q,l[j]? =some q:=⟨_,List.getElem?_eq_getElem (by have:=HM.out;omega)⟩
       obtain⟨u,hu,a8,c8,rfl,hc8,hst⟩:=HV6.out.2 j q hq
       obtain⟨b5,o5,rfl,-,hb5w,hcc⟩:=O9.out.at_ (by omega)
       obtain⟨bN,Xf,pv,Vs,hbN,El,a9,c9,rfl,YU,YD⟩:=sO.out.at_ hq
       have hnv2:aN=some ⟨bN,0,none⟩∧cN=Xf:=by
        simp only[Value.slice.injEq,true_and]at Vs
        exact Vs
       obtain⟨rfl,rfl⟩:=hnv2
       have Y7:Hid (∀w',Below w6.heap.size w6 w'→w'.cell? ⟨b5,o5+j,none⟩=some (.slice a8 q.length c8)∧w'.cell? ⟨bN,j,none⟩=some (.slice a9 q.length c9)):=fun w' hb=>
        ⟨(hb.cell (p:=⟨b5,o5+j,none⟩) hb5w).trans ((hcc j hjm).trans hu),(hb.cell (p:=⟨bN,j,none⟩) hbN).trans El⟩
       have IC:=Lib.hid (Ah a8 a9 q.length c8 q.length c9 (q.map strOf) (q.map strOf) wr.drew (hst.below (oK yF) (Nat.le_refl _)) (YD.below (oK yF) (Nat.le_refl _)))
       rw[decide_eq_true (rfl:q.map strOf=q.map strOf)]at IC
       have hj0:(0:Int)≤(j:Int):=by omega
       have hj1:(j:Int)<(m:Int):=by omega
       have HJ:=Lib.hid hjm
       clear hq hu hcc El hst YD Vs yF hjm
       go_wp2_with fail
       refine wp_region_noPanic ?_
       refine wp_region_held_drew (S:=(fun w'=>w'.cell? ⟨b5,o5+j,none⟩=some (.slice a8 q.length c8)∧w'.cell? ⟨bN,j,none⟩=some (.slice a9 q.length c9))) (by kernel_rfl) ?_ (fun hS=> ?_)
       ·exact Y7.out _ (oK pO.out)
       refine aV 0 (hS:=hS) (h:= ?_)
       refine aV 1 (hS:=hS) (h:= ?_)
       refine aV 2 (hS:=hS) (h:= ?_)
       refine aV 3 (hS:=hS) (h:= ?_)
       refine aV 4 (hS:=hS) (h:= ?_)
       refine aV 5 (hS:=hS) (h:= ?_)
       refine aV 6 (hS:=hS) (h:= ?_)
       refine aV 7 (hS:=hS) (h:= ?_)
       refine lJ 8 (h:=fun K hK=> ?_)
       go_simp
       (with_reducible refine IC.out.mono ?_)
       rintro e w8 ⟨rfl,uR⟩
       have V_:Below w6.heap.size w6 w8:=(oK pO.out).trans (uR.mono hs7)
       go_simp
       refine hK.out _ _ (Y7.out _ V_) (fun hS=> ?_)
       clear hK K
       try simp only[Act.put,List.setIfInBounds_toArray,List.set_cons_zero,List.set_cons_succ]
       refine aV 9 (hS:=hS) (h:= ?_)
       refine wpAnyH_done (by kernel_rfl) ?_ _
       refine NoPanic.normal ?_
       have vY:=Lib.hid V_
       clear uR V_
       go_wp2_with fail
       go_roundw
       case rel=>exact⟨j+1,HJ.out,by go_num,vY.out⟩
       case measure=>have:=HJ.out;simp[intOf];omega
      ·have hd2:decide (j<m)=false:=by simpa using hjm
       clear yF hjm
       go_wp2_with fail
       go_roundw
       case rel=>exact⟨k+1,MI.out,by go_num,ou.out.trans (pO.out.mono hs6)⟩
       case measure=>have:=MI.out;simp[intOf];omega
    |false=>
     rw[hs]at yR
     have hl0:=Tn.out hs
     have hm0:m=0:=by rw[HM.out,hl0];rfl
     subst hm0
     clear hs Tn hl0
     go_wp2_with fail
     (with_reducible refine yR.out.mono ?_)
     rintro e w5 ⟨rfl,hb5⟩
     have iW:=Lib.hid (eO.out.trans ((hb5.trans ((wall w5 (.cells #[.int .i64 n0, .int .i64 n1, .int .i64 n2, .int .i64 n3, .int .u64 n4, .bool n5] 90)).mono hb5.size)).mono hs4))
     clear hb5
     go_wp2_with fail
     go_loopw [11] (fun iv wr=>∃j:Nat,j≤0∧iv= .int .i64 j∧Below w3.heap.size w3 wr) (fun iv _=>0)
     case atStart=>exact⟨0,Nat.zero_le _,rfl,iW.out⟩
     case round=>
      obtain⟨j,hj,rfl,yF⟩:=hrel
      obtain rfl:j=0:=by omega
      have pO:=Lib.hid yF
      clear yF
      go_wp2_with fail
      go_roundw
      case rel=>exact⟨k+1,MI.out,by go_num,pO.out⟩
      case measure=>have:=MI.out;simp[intOf];omega
   ·have hd1:decide ((k:Int)<12)=false:=by simp;omega
    have QN:=Lib.hid (gT.out.tree.grow (hB.trans ⟨rfl,rfl,rfl,Nat.le_refl _,fun _ _=>rfl⟩:Below w3.heap.size w3 wr.drew))
    have Ky:=Lib.hid (Rh QN.out)
    have HRS:Hid (∀w',Below wr.heap.size wr w'→Calls Tryz.prog 33 #[ptr r] w' (iV w' (iO T))):=fun w' hb=>MB w' (gT.out.ref.below (hB.trans (hb.mono G_)) (Nat.le_refl _)) HO.out.1
    have hBW:=gT.out.tree.below.trans (hB.mono hs3)
    have Jk:=Lib.hid hBW
    have hsW:=hBW.size
    obtain⟨sv,hsv⟩:∃sv,sv=iO T:=⟨_,rfl⟩
    rw[←hsv]at Ky HRS
    clear hB hsv hBW
    go_wp2_with fail
    refine wp_region_noPanic ?_
    refine wp_region_held_drew (S:=(fun _=>True)) (by kernel_rfl) ?_ (fun hS=> ?_)
    ·exact trivial
    refine aV 0 (hS:=hS) (h:= ?_)
    refine aV 3 (hS:=hS) (h:= ?_)
    refine lJ 1 (h:=fun K hK=> ?_)
    go_simp
    (with_reducible refine Ky.out.mono ?_)
    rintro e w4 ⟨ra,rn,rc,rfl,hrc,hrr,hb4⟩
    have GX:Below wr.heap.size wr w4:=(oK (Below.refl _ _)).trans hb4
    have HRR:=Lib.hid hrr
    have eO:=Lib.hid GX
    clear hrr hb4 GX Ky
    go_wp2_with fail
    refine hK.out _ _ (trivial) (fun hS=> ?_)
    clear hK K
    try simp only[Act.put,List.setIfInBounds_toArray,List.set_cons_zero,List.set_cons_succ]
    refine jh (S':=fun w'=>True∧(convert 39 9 (.slice ra rn rc)).run Tryz.prog w'= .ok (.string (strOf sv)) w') (fun _ h=>h.1) _ _ _ _ ?_
    have Pm:=And.intro hS (dW (c:=rc) HRR.out)
    clear hS
    have hS:=Pm
    clear Pm
    refine aV 2 (hS:=hS) (h:= ?_)
    refine lJ 4 (h:=fun K hK=> ?_)
    go_simp
    (with_reducible refine(HRS.out w4 eO.out).mono ?_)
    rintro e w5 ⟨ua,uc,rfl,hown,hb5⟩
    have Po:=Lib.hid (iy hown)
    have AZ:=Lib.hid (HRR.out.kept hb5.size (fun b hb _=>hb5.block b hb.2))
    have Gu:=Lib.hid (Jk.out.trans ((eO.out.trans (hb5.mono eO.out.size)).mono hsW))
    clear hown hb5 HRR
    go_wp2_with fail
    refine hK.out _ _ (⟨trivial,dW (c:=rc) AZ.out⟩) (fun hS=> ?_)
    clear hK K
    try simp only[Act.put,List.setIfInBounds_toArray,List.set_cons_zero,List.set_cons_succ]
    refine jh (S':=fun w'=>(True∧(convert 39 9 (.slice ra rn rc)).run Tryz.prog w'= .ok (.string (strOf sv)) w')∧(convert 39 9 (.slice ua sv.length uc)).run Tryz.prog w'= .ok (.string (strOf sv)) w') (fun _ h=>h.1) _ _ _ _ ?_
    have Pn:=And.intro hS (dW (c:=uc) Po.out)
    clear hS
    have hS:=Pn
    clear Pn
    refine aV 5 (hS:=hS) (h:= ?_)
    refine aV 6 (hS:=hS) (h:= ?_)
    refine aV 7 (hS:=hS) (h:= ?_)
    refine lJ 8 (h:=fun K hK=> ?_)
    go_simp
    (with_reducible refine(sJ w5).mono ?_)
    rintro e w9 ⟨rfl,oW⟩
    have Pp:=Lib.hid (Po.out.kept oW.size (fun b hb hbw=>oW.block b hbw))
    have Pq:=Lib.hid (AZ.out.kept oW.size (fun b hb hbw=>oW.block b hbw))
    have BA:=Lib.hid (Gu.out.trans (oW.mono Gu.out.size))
    clear oW AZ Po
    go_wp2_with fail
    refine hK.out _ _ (⟨⟨trivial,dW (c:=rc) Pq.out⟩,dW (c:=uc) Pp.out⟩) (fun hS=> ?_)
    clear hK K
    try simp only[Act.put,List.setIfInBounds_toArray,List.set_cons_zero,List.set_cons_succ]
    refine aV 9 (hS:=hS) (h:= ?_)
    refine aV 10 (hS:=hS) (h:= ?_)
    refine wpAnyH_done (by kernel_rfl) ?_ _
    refine NoPanic.normal ?_
    clear hS
    go_wp2_with fail
    go_ret
    exact⟨rfl,BA.out⟩
end Go.Proofs.YtmabllemjkcobaaGreat.treePlays
