/- The reference: Unlink, Rmdir. The reference: Rmdir. The reference: Read. The reference: Keep, Seal. The reference: Seal. -/
import Derived.Test.YtohpcppeajijnaaGreatM31
namespace Go.Proofs.YtohpcppeajijnaaGreat
open Go.ChangeShapes Go.WideShapes Go.ChangeAt Go.RowKit
set_option linter.unusedVariables false
set_option linter.unusedSimpArgs false
theorem Keeps.cell_ {r b:Nat} {w w':World} (h:Keeps (fun x=>x=r) w w') (hb:b<w.heap.size) (hn:b≠r) (j:Nat):w'.cell? ⟨b,j,none⟩=w.cell? ⟨b,j,none⟩:=World.cell?_of_block (w:=w) (w':=w') (a:=⟨b,j,none⟩) (h.block b hb hn)
theorem Di {T:aI} {p:List Nm} (h:(kG T p).2=0):kG T p=aY T 0 p:=by
 unfold kG at h⊢
 by_cases h1:bV p≠0
 ·rw[if_pos h1]at h;exact absurd h h1
 ·rw[if_neg h1]
section
variable {F:Nat→Prop} {r:Nat} {T:aI}
set_option maxRecDepth 100000 in
set_option maxHeartbeats 8000000 in
theorem Bj {S:Nat→Prop} (a:Option Addr) (n c:Nat) (ls:List Nm) (w:World) (h:jr F w r T) (hT:dR T) (hS:aW S w a n (ls.map strOf)) (hc:n≤c) (pE:n≤1000000):
  Calls Tryz.prog 19 #[ptr r, .slice a n c] w (dJ F w r (bg T ls).2 (.int .i64 (bg T ls).1)):=by
 have hE:(aQ T).length≤1000000:=by have:=lG hT;omega
 have H1:=Lib.hid (FX a n c ls w h hT hE hS)
 have H3:=Lib.hid (fun w1 (hb:Below w.heap.size w w1)=>wE a n c ls w1 (h.below hb (Nat.le_refl _)) hT hE (hS.below hb (Nat.le_refl _)) hc pE)
 have H4:=Lib.hid (fun w1 (hb:Below w.heap.size w w1) id=>sQ id w1 (h.below hb (Nat.le_refl _)) hT.touK)
 have H5:=Lib.hid (fun w1 (hb:Below w.heap.size w w1) d nm=>nK d nm w1 (h.below hb (Nat.le_refl _)) hE)
 have HH:=Lib.hid h
 have HT:=Lib.hid hT
 have hr0:=h.low r h.own
 by_cases h1:(kG T ls).2=0
 ·have M8:=Di h1
  rw[M8]at h1 H1
  have hl2:aY T 0 ls=((aY T 0 ls).1,0):=Prod.ext rfl h1
  obtain⟨y,hy⟩:=Option.isSome_iff_exists.1 (je hT ls 0 (gG hT) h1)
  have hue:fT T ls=if y.kind=2 then 22 else 0:=by
   unfold fT
   rw[M8,if_neg (by rw[h1];simp),jl hy]
  obtain⟨id,hid⟩:∃id,id=(aY T 0 ls).1:=⟨_,rfl⟩
  rw[←hid]at hl2 hy
  rw[hl2]at H1
  simp only at H1
  have Oz:=Lib.hid (fun w1 hb=>H4.out w1 hb id)
  have hnd:nU T id=kH id y:=by unfold nU;rw[hy]
  rw[hnd]at Oz
  unfold kH at Oz
  have hlk:=(hT.each id y hy).links
  by_cases h2:y.kind=2
  ·have hk1:(y.kind==2)=true:=by simpa using h2
   have HQ:Hid (bg T ls=(22,T)):=by
    show bg T ls=(22,T)
    unfold bg
    rw[hue,if_pos h2]
    rfl
   clear h hT hS hE H4 M8 h1 hl2 hue hid hnd hy h2
   go_enter Tryz.func19,Tryz.ntmps19
   go_wp2_with fail
   (with_reducible refine H1.out.mono ?_)
   rintro e w1 ⟨rfl,hb1⟩
   have HB1:=Lib.hid hb1
   clear hb1
   go_wp2_with fail
   (with_reducible refine(Oz.out w1 HB1.out).mono ?_)
   rintro e w3 ⟨rfl,hb3⟩
   have HB3:=Lib.hid (HB1.out.trans (hb3.mono HB1.out.size))
   have hz3:=HB3.out.size
   clear hb3
   go_wp2_with fail
   go_ret
   exact dJ.no HH.out (HB3.out.trans ((wall w3 _).mono HB3.out.size)) HQ.out
  ·have hk1:(y.kind==2)=false:=by simpa using h2
   have hls:ls≠[]:=fun e=>by
    rw[e]at hl2
    simp only[aY,Prod.mk.injEq,and_true]at hl2
    obtain⟨z,hz,Wt⟩:=jE hT.root
    rw[←hl2,hz]at hy
    cases hy
    exact h2 Wt
   obtain⟨d,x,n1,hp1,hp2,hx,hxk,hxn,hm,-⟩:=mM hl2 hls
   rw[hp1]at H3
   simp only at H3
   have Tw:id≠d:=fun e=>by rw[e,hx]at hy;cases hy;exact h2 hxk
   have AY:=Lib.hid ((uU.of hT).cut d n1)
   obtain⟨k,hk,-⟩:=Ey (uU.of hT) hx hxn
   have Kh:=Lib.hid (fun w1 hb=>H5.out w1 hb d n1)
   rw[hk]at Kh
   have Tx:Hid (∀w4,Below w.heap.size w w4→Calls Tryz.prog 69 #[ptr r, .int .i64 k] w4 (dJ F w4 r (aU T d n1) (.tuple #[]))):=fun w4 hb=>by
    obtain⟨k',hk',hc'⟩:=M7 d n1 id x w4 (h.below hb (Nat.le_refl _)) (uU.of hT) hx hxn
    rw[hk]at hk'
    have:k=k':=by omega
    rw[this]
    exact hc'
   have ML:Hid (aF id (aU T d n1)=some y):=by
    show aF id (aU T d n1)=some y
    unfold aU
    rw[bF,if_neg Tw]
    exact hy
   have O_:Hid (aF id (aT id (fun x:bf=>{x with links:=x.links+ -1}) (aU T d n1))=some {y with links:=y.links+ -1}):=by
    show aF id (aT id (fun x:bf=>{x with links:=x.links+ -1}) (aU T d n1))=some {y with links:=y.links+ -1}
    rw[bF,if_pos rfl,ML.out]
    rfl
   have HL2:Hid (uU (aT id (fun x:bf=>{x with links:=x.links+ -1}) (aU T d n1))):=AY.out.aT id (fun _=>by exact rfl)
   have hnil:y.names=[]:=(hT.each id y hy).file ((hT.each id y hy).kind.resolve_right h2)
   have HQ:Hid (bg T ls=(0,if y.links=1∧y.closed=true then bK id (aT id (fun x:bf=>{x with links:=x.links+ -1}) (aU T d n1))else aT id (fun x:bf=>{x with links:=x.links+ -1}) (aU T d n1))):=by
    show bg T ls=_
    unfold bg
    rw[hue,if_neg h2]
    refine Prod.ext rfl ?_
    show mW T ls=_
    unfold mW eT
    rw[hp1,←hid]
    have e0:(fun x:bf=>{x with links:=x.links-1})=fun x:bf=>{x with links:=x.links+ -1}:=rfl
    simp only[e0]
    rw[O_.out]
    simp only
    by_cases hq:y.links=1∧y.closed=true
    ·rw[if_pos hq,if_pos ⟨by omega,hq.2⟩]
    ·rw[if_neg hq,if_neg (fun h=>hq ⟨by omega,h.2⟩)]
   clear h hT hS hE H4 H5 M8 h1 hl2 hue hid hnd hy h2 hls hp1 hp2 hx hxk hxn hm hk Tw
   by_cases h3:y.links=1
   ·have e1:(y.links==1)=true:=by simpa using h3
    cases h4:y.closed with
    |true=>
     rw[if_pos ⟨h3,h4⟩]at HQ
     rw[h4]at Oz
     have hcl:=Lib.hid h4
     clear h3 h4
     go_enter Tryz.func19,Tryz.ntmps19
     go_wp2_with fail
     (with_reducible refine H1.out.mono ?_)
     rintro e w1 ⟨rfl,hb1⟩
     have HB1:=Lib.hid hb1
     clear hb1
     go_wp2_with fail
     (with_reducible refine(Oz.out w1 HB1.out).mono ?_)
     rintro e w3 ⟨rfl,hb3⟩
     have HB3:=Lib.hid (HB1.out.trans (hb3.mono HB1.out.size))
     have hz3:=HB3.out.size
     clear hb3
     go_wp2_with fail
     (with_reducible refine(H3.out _ (HB3.out.trans ((wall w3 _).mono HB3.out.size))).mono ?_)
     rintro e w4 ⟨rfl,hb4⟩
     have kS:=Lib.hid ((HB3.out.trans ((wall w3 _).mono HB3.out.size)).trans (hb4.mono (by simp;omega)))
     have q4:w4.cell? ⟨w3.heap.size,2,none⟩=some (.int .i64 y.links):=by rw[hb4.cell (p:=⟨w3.heap.size,2,none⟩) (by simp)];exact nu w3 _ _ 2
     have q5:w4.cell? ⟨w3.heap.size,5,none⟩=some (.bool true):=by rw[hb4.cell (p:=⟨w3.heap.size,5,none⟩) (by simp)];exact(nu w3 _ _ 5)
     have Ki:w3.heap.size<w4.heap.size:=by have:=hb4.size;simp at this;omega
     obtain⟨qb,Fy⟩:∃qb,qb=w3.heap.size:=⟨_,rfl⟩
     have hqr:qb≠r:=by omega
     rw[←Fy]at q4 q5 Ki⊢
     have HZ:=Lib.hid Fy
     clear hb4 Fy hz3
     go_wp2_with fail
     (with_reducible refine(Kh.out w4 kS.out).mono ?_)
     rintro e w5 ⟨rfl,rfl⟩
     go_wp2_with fail
     (with_reducible refine(Tx.out w4 kS.out).mono ?_)
     rintro e w5 Tz
     obtain⟨rfl,vJ,Kj⟩:=Tz
     have OA:w5.cell? ⟨qb,2,none⟩=some (.int .i64 y.links):=(vJ.cell_ Ki hqr 2).trans q4
     have OB:w5.cell? ⟨qb,5,none⟩=some (.bool true):=(vJ.cell_ Ki hqr 5).trans q5
     have Ep:qb<w5.heap.size:=by have:=vJ.size;omega
     have TA:=Lib.hid (sV id (-1) y w5 Kj AY.out ML.out (by omega) hlk)
     have Er:Hid (dJ F w4 r (aU T d n1) (.tuple #[]) (.returned (.tuple #[])) w5):=⟨rfl,vJ,Kj⟩
     clear vJ Kj q4 q5
     go_wp2_with fail
     (with_reducible refine TA.out.mono ?_)
     rintro e w6 TB
     obtain⟨rfl,yA,Hr⟩:=TB
     have q4:w6.cell? ⟨qb,2,none⟩=some (.int .i64 y.links):=(yA.cell_ Ep hqr 2).trans OA
     have q5:w6.cell? ⟨qb,5,none⟩=some (.bool true):=(yA.cell_ Ep hqr 5).trans OB
     have hz6:qb<w6.heap.size:=by have:=yA.size;omega
     have RI:=Lib.hid (rO id _ w6 Hr HL2.out.sorted HL2.out.len O_.out hnil)
     have zk:Hid (dJ (Grow F w4 w5) w5 r (aT id (fun x=>{x with links:=x.links+ -1}) (aU T d n1)) (.tuple #[]) (.returned (.tuple #[])) w6):=⟨rfl,yA,Hr⟩
     clear yA Hr OA OB
     go_wp2_with fail
     (with_reducible refine RI.out.mono ?_)
     rintro e w7 Kk
     have TD:=Lib.hid Kk
     obtain rfl:=Kk.1
     clear Kk
     go_wp2_with fail
     go_ret
     rw[HQ.out]
     have ht56:=Er.out.trans (HH.out.below kS.out (Nat.le_refl _)).low zk.out
     exact(cu.behind HH.out.low kS.out (Er.out.trans (HH.out.below kS.out (Nat.le_refl _)).low (zk.out.trans Er.out.2.2.low TD.out))).val _
    |false=>
     rw[if_neg (by rw[h4];simp)]at HQ
     rw[h4]at Oz
     clear h3 h4
     go_enter Tryz.func19,Tryz.ntmps19
     go_wp2_with fail
     (with_reducible refine H1.out.mono ?_)
     rintro e w1 ⟨rfl,hb1⟩
     have HB1:=Lib.hid hb1
     clear hb1
     go_wp2_with fail
     (with_reducible refine(Oz.out w1 HB1.out).mono ?_)
     rintro e w3 ⟨rfl,hb3⟩
     have HB3:=Lib.hid (HB1.out.trans (hb3.mono HB1.out.size))
     have hz3:=HB3.out.size
     clear hb3
     go_wp2_with fail
     (with_reducible refine(H3.out _ (HB3.out.trans ((wall w3 _).mono HB3.out.size))).mono ?_)
     rintro e w4 ⟨rfl,hb4⟩
     have kS:=Lib.hid ((HB3.out.trans ((wall w3 _).mono HB3.out.size)).trans (hb4.mono (by simp;omega)))
     have q4:w4.cell? ⟨w3.heap.size,2,none⟩=some (.int .i64 y.links):=by rw[hb4.cell (p:=⟨w3.heap.size,2,none⟩) (by simp)];exact nu w3 _ _ 2
     have q5:w4.cell? ⟨w3.heap.size,5,none⟩=some (.bool false):=by rw[hb4.cell (p:=⟨w3.heap.size,5,none⟩) (by simp)];exact nu w3 _ _ 5
     have Ki:w3.heap.size<w4.heap.size:=by have:=hb4.size;simp at this;omega
     obtain⟨qb,Fy⟩:∃qb,qb=w3.heap.size:=⟨_,rfl⟩
     have hqr:qb≠r:=by omega
     rw[←Fy]at q4 q5 Ki⊢
     have HZ:=Lib.hid Fy
     clear hb4 Fy hz3
     go_wp2_with fail
     (with_reducible refine(Kh.out w4 kS.out).mono ?_)
     rintro e w5 ⟨rfl,rfl⟩
     go_wp2_with fail
     (with_reducible refine(Tx.out w4 kS.out).mono ?_)
     rintro e w5 Tz
     obtain⟨rfl,vJ,Kj⟩:=Tz
     have OA:w5.cell? ⟨qb,2,none⟩=some (.int .i64 y.links):=(vJ.cell_ Ki hqr 2).trans q4
     have OB:w5.cell? ⟨qb,5,none⟩=some (.bool false):=(vJ.cell_ Ki hqr 5).trans q5
     have Ep:qb<w5.heap.size:=by have:=vJ.size;omega
     have TA:=Lib.hid (sV id (-1) y w5 Kj AY.out ML.out (by omega) hlk)
     have Er:Hid (dJ F w4 r (aU T d n1) (.tuple #[]) (.returned (.tuple #[])) w5):=⟨rfl,vJ,Kj⟩
     clear vJ Kj q4 q5
     go_wp2_with fail
     (with_reducible refine TA.out.mono ?_)
     rintro e w6 TB
     obtain⟨rfl,yA,Hr⟩:=TB
     have q4:w6.cell? ⟨qb,2,none⟩=some (.int .i64 y.links):=(yA.cell_ Ep hqr 2).trans OA
     have q5:w6.cell? ⟨qb,5,none⟩=some (.bool false):=(yA.cell_ Ep hqr 5).trans OB
     have hz6:qb<w6.heap.size:=by have:=yA.size;omega
     have zk:Hid (dJ (Grow F w4 w5) w5 r (aT id (fun x=>{x with links:=x.links+ -1}) (aU T d n1)) (.tuple #[]) (.returned (.tuple #[])) w6):=⟨rfl,yA,Hr⟩
     clear yA Hr OA OB
     go_wp2_with fail
     go_ret
     rw[HQ.out]
     exact(cu.behind HH.out.low kS.out (Er.out.trans (HH.out.below kS.out (Nat.le_refl _)).low zk.out)).val _
   ·have e1:(y.links==1)=false:=by simpa using h3
    rw[if_neg (fun h=>h3 h.1)]at HQ
    clear h3
    go_enter Tryz.func19,Tryz.ntmps19
    go_wp2_with fail
    (with_reducible refine H1.out.mono ?_)
    rintro e w1 ⟨rfl,hb1⟩
    have HB1:=Lib.hid hb1
    clear hb1
    go_wp2_with fail
    (with_reducible refine(Oz.out w1 HB1.out).mono ?_)
    rintro e w3 ⟨rfl,hb3⟩
    have HB3:=Lib.hid (HB1.out.trans (hb3.mono HB1.out.size))
    have hz3:=HB3.out.size
    clear hb3
    go_wp2_with fail
    (with_reducible refine(H3.out _ (HB3.out.trans ((wall w3 _).mono HB3.out.size))).mono ?_)
    rintro e w4 ⟨rfl,hb4⟩
    have kS:=Lib.hid ((HB3.out.trans ((wall w3 _).mono HB3.out.size)).trans (hb4.mono (by simp;omega)))
    have q4:w4.cell? ⟨w3.heap.size,2,none⟩=some (.int .i64 y.links):=by rw[hb4.cell (p:=⟨w3.heap.size,2,none⟩) (by simp)];exact nu w3 _ _ 2
    have q5:w4.cell? ⟨w3.heap.size,5,none⟩=some (.bool y.closed):=by rw[hb4.cell (p:=⟨w3.heap.size,5,none⟩) (by simp)];exact nu w3 _ _ 5
    have Ki:w3.heap.size<w4.heap.size:=by have:=hb4.size;simp at this;omega
    obtain⟨qb,Fy⟩:∃qb,qb=w3.heap.size:=⟨_,rfl⟩
    have hqr:qb≠r:=by omega
    rw[←Fy]at q4 q5 Ki⊢
    have HZ:=Lib.hid Fy
    clear hb4 Fy hz3
    go_wp2_with fail
    (with_reducible refine(Kh.out w4 kS.out).mono ?_)
    rintro e w5 ⟨rfl,rfl⟩
    go_wp2_with fail
    (with_reducible refine(Tx.out w4 kS.out).mono ?_)
    rintro e w5 Tz
    obtain⟨rfl,vJ,Kj⟩:=Tz
    have OA:w5.cell? ⟨qb,2,none⟩=some (.int .i64 y.links):=(vJ.cell_ Ki hqr 2).trans q4
    have OB:w5.cell? ⟨qb,5,none⟩=some (.bool y.closed):=(vJ.cell_ Ki hqr 5).trans q5
    have Ep:qb<w5.heap.size:=by have:=vJ.size;omega
    have TA:=Lib.hid (sV id (-1) y w5 Kj AY.out ML.out (by omega) hlk)
    have Er:Hid (dJ F w4 r (aU T d n1) (.tuple #[]) (.returned (.tuple #[])) w5):=⟨rfl,vJ,Kj⟩
    clear vJ Kj q4 q5
    go_wp2_with fail
    (with_reducible refine TA.out.mono ?_)
    rintro e w6 TB
    obtain⟨rfl,yA,Hr⟩:=TB
    have q4:w6.cell? ⟨qb,2,none⟩=some (.int .i64 y.links):=(yA.cell_ Ep hqr 2).trans OA
    have q5:w6.cell? ⟨qb,5,none⟩=some (.bool y.closed):=(yA.cell_ Ep hqr 5).trans OB
    have hz6:qb<w6.heap.size:=by have:=yA.size;omega
    have zk:Hid (dJ (Grow F w4 w5) w5 r (aT id (fun x=>{x with links:=x.links+ -1}) (aU T d n1)) (.tuple #[]) (.returned (.tuple #[])) w6):=⟨rfl,yA,Hr⟩
    clear yA Hr OA OB
    go_wp2_with fail
    go_ret
    rw[HQ.out]
    exact(cu.behind HH.out.low kS.out (Er.out.trans (HH.out.below kS.out (Nat.le_refl _)).low zk.out)).val _
 ·have HQ:Hid (bg T ls=((kG T ls).2,T)):=by
   show bg T ls=_
   have he:fT T ls=(kG T ls).2:=by unfold fT;rw[if_pos h1]
   unfold bg
   rw[he,if_neg h1]
  generalize kG T ls=lk at*
  obtain⟨id,e1⟩:=lk
  simp only at h1 H1 HQ
  have hne:(e1==0)=false:=by simpa using h1
  have hne2:(e1 !=0)=true:=by simpa using h1
  clear h hT hS hE h1
  go_enter Tryz.func19,Tryz.ntmps19
  go_wp2_with fail
  (with_reducible refine H1.out.mono ?_)
  rintro e w1 ⟨rfl,hb1⟩
  have HB1:=Lib.hid hb1
  clear hb1
  go_wp2_with fail
  go_ret
  exact dJ.no HH.out HB1.out HQ.out
end
section
variable {F:Nat→Prop} {r:Nat} {T:aI}
end
section
variable {F:Nat→Prop} {r:Nat} {T:aI}
end
theorem sW {T:aI} {id aS v:Int} (h:nT T id aS=v) (hv:v≠0):dZ T id aS=(v,T):=by
 unfold dZ
 rw[h,if_neg hv]
section
variable {F:Nat→Prop} {r:Nat} {T:aI}
end
section
variable {F:Nat→Prop} {r:Nat} {T:aI}
set_option maxRecDepth 100000 in
set_option maxHeartbeats 8000000 in
theorem F7 (id aS:Int) (w:World) (h:jr F w r T) (hT:dR T) (ht0:0≤aS∧aS≤18446744073709551615):
  Calls Tryz.prog 24 #[ptr r, .int .i64 id, .int .u64 aS] w (dJ F w r (dZ T id aS).2 (.int .i64 (dZ T id aS).1)):=by
 have HF:=Lib.hid (sS id w h hT.touK)
 have hr0:=h.low r h.own
 have HH:=Lib.hid h
 by_cases h0:cK T id=0
 ·obtain⟨x,hx,hk⟩:∃x,aF id T=some x∧x.kind≠2:=by
   unfold cK at h0
   cases hx:aF id T with
   |none=>rw[hx]at h0;cases h0
   |some x=>
    rw[hx]at h0
    exact⟨x,rfl,fun hk=>by simp[hk]at h0⟩
  obtain⟨k,hi,hq⟩:=jw hT.sorted hx
  have hrf:FY T id=k:=by unfold FY;rw[if_pos h0];exact hi
  rw[hrf,h0]at HF
  obtain⟨bN,oN,cN,hc0,hO,hbw,hkl,c0,c1,c2,c3,c4,c5⟩:=h.node hq
  simp only at c0 c1 c2 c3 c4 c5
  have i0:(0:Int)≤k:=by omega
  have hlen:=hT.len
  have BR:=Lib.hid hq
  have HS:=Lib.hid hT.sorted
  obtain⟨i6,a6,b6,s6,d6⟩:=info_parts nodeInfo
  have fA:=Lib.hid (And.intro a6 (And.intro b6 (And.intro s6 d6)))
  obtain⟨aN,cN',aD,cD,aE,cE,h1,h2,h3,h4,h8,h9,h10,h11⟩:=h.head
  obtain⟨p0,p1,p2,pf⟩:=dY h1
  rw[p0]at hc0
  simp only[Option.some.injEq,Value.slice.injEq,true_and]at hc0
  obtain⟨rfl,rfl⟩:=hc0
  have pR:=Lib.hid h1
  have Kg:=Lib.hid h8
  obtain⟨n,hn⟩:∃n,n=T.length:=⟨_,rfl⟩
  rw[←hn]at p0 hlen hkl h2 Kg
  have fV:=Lib.hid hn
  have hf0:=pf 0
  have hfp:=hO.2
  have i1:(k:Int)<n:=by omega
  have hrw:=hr0
  have mg:=Lib.hid (hT.each id x hx)
  have HX:=Lib.hid hx
  have hkx:=hk
  clear a6 b6 s6 d6 h1 h8 h9 h10 h11 hi hrf h hq hn p1 p2 pf hO hT h0
  have he:nT T id aS=if x.closed then 27 else if 1099511627776<aS then 1 else 0:=by
   unfold nT
   rw[hx]
   simp only[if_neg hk]
  clear hx hk
  cases hcl:x.closed with
  |true=>
   rw[hcl]at c5
   have HQ:=Lib.hid (sW (he.trans (if_pos hcl)) (by omega))
   clear hcl he
   go_enter Tryz.func24,Tryz.ntmps24
   go_wp2_with fail
   (with_reducible refine HF.out.mono ?_)
   rintro e w1 ⟨rfl,rfl⟩
   go_wp2_with fail
   go_ret
   exact dJ.no HH.out (Below.refl _ _) HQ.out
  |false=>
   rw[hcl]at c5
   rw[if_neg (by rw[hcl];decide)]at he
   by_cases h6:1099511627776<aS
   ·have HQ:=Lib.hid (sW (he.trans (if_pos h6)) (by omega))
    have hd6:decide ((1099511627776:Int)<aS)=true:=by simpa using h6
    clear hcl he
    go_enter Tryz.func24,Tryz.ntmps24
    go_wp2_with fail
    (with_reducible refine HF.out.mono ?_)
    rintro e w1 ⟨rfl,rfl⟩
    go_wp2_with fail
    go_ret
    exact dJ.no HH.out (Below.refl _ _) HQ.out
   ·have hd6:decide ((1099511627776:Int)<aS)=false:=by simpa using h6
    have HQ:Hid (dZ T id aS=(0,if x.links=0 then bK id (aT id (fun x:bf=>{x with closed:=true,aS:=aS}) T)else(aT id (fun x:bf=>{x with closed:=true,aS:=aS}) T))):=by
     show dZ T id aS=_
     unfold dZ eT
     rw[he,if_neg h6]
     refine Prod.ext rfl ?_
     show(match aF id (aT id (fun x:bf=>{x with closed:=true,aS:=aS}) T)with|none=>(aT id (fun x:bf=>{x with closed:=true,aS:=aS}) T)|some x=>if x.links=0∧x.closed=true then bK id (aT id (fun x:bf=>{x with closed:=true,aS:=aS}) T)else(aT id (fun x:bf=>{x with closed:=true,aS:=aS}) T))=_
     rw[bF,if_pos rfl,HX.out]
     simp only[Option.map_some,and_true]
    clear hcl he
    by_cases h9:x.links=0
    ·rw[if_pos h9]at HQ
     have e9:(x.links==0)=true:=by simpa using h9
     clear h9
     go_enter Tryz.func24,Tryz.ntmps24
     go_wp2_with fail
     (with_reducible refine HF.out.mono ?_)
     rintro e w1 ⟨rfl,rfl⟩
     go_upto_region 8 with(fail)
     go_cut [] (fun wx=>bq w r (.slice aD (List.map (fun q:Int×bf=>q.2.b) T).length cD) (.slice aE (aQ T).length cE) T wx)
     case first=>
      go_wp2_with ((at_builtin;refine fK rfl _ _ 99 rfl w.heap.size 98 _ _ 6 48 Tryz.underlying99 fA.out.1 fA.out.2.1 fA.out.2.2.1 fA.out.2.2.2 rfl (by omega) _ 0 [] rfl (bZ (MapKept.heap_alloc w _).1 (Nat.le_refl _)) _ n _ (T.flatMap bA) rfl (Kg.out.below ((Below.refl _ _).alloc (Nat.le_refl _) _) (Nat.le_refl _)) (dx _) (by unfold maxLen;omega) (by omega) (by simp) ?_;intro A1 c1' w1 hown1 hb1;have hB1:=((Below.refl w.heap.size w).alloc (Nat.le_refl _) _).trans hb1;have hf1:w1.frozen? ⟨r,0,none⟩=false:=(hB1.frozen (p:=⟨r,0,none⟩) hrw).trans hf0;have PU:=(hB1.cell (p:=⟨r,0,none⟩) hrw).trans p0))
      go_meet
      obtain⟨-,hcc,-,hrow2⟩:=mF (w:=w) hown1 (by unfold maxLen;omega) (Nat.le_refl _)
      have hn:=fV.out
      rw[List.nil_append,Nat.zero_add,hn]at hrow2
      rw[Nat.zero_add,hn]at hcc
      have:=bq.RG hrw pR.out hB1 hcc hrow2 (jM hown1)
      rw[←hn]at this
      exact this
     case rest=>
      obtain⟨w1,rfl⟩:∃w1:World,w1=wc:=⟨_,rfl⟩
      obtain⟨g,off,c,q0,-,-,hlc,qf,hgr,hg1,hg2,hr1,gf,d0,d1,d2,d3,d4,d5⟩:=hcut.facts BR.out
      rw[←fV.out]at q0
      have LP:=gf (off+k*6+5)
      have HM:=Lib.hid hcut
      have wX:=Lib.hid q0
      clear hcut qf gf hlc
      go_upto_region 9 with(fail)
      go_cut [] (fun wx=>bq w r (.slice aD (List.map (fun q:Int×bf=>q.2.b) T).length cD) (.slice aE (aQ T).length cE) (T.set k (id,({x with closed:=true}:bf))) wx)
      case first=>
       go_wp2_with fail
       go_meet
       have h0:=wX.out
       rw[fV.out]at h0
       have:=bq.fE HM.out (by rw[←fV.out]at h0⊢;exact h0) (k:=k) (j:=5) (q':=(id,{x with closed:=true})) (v:= .bool true) BR.out (by omega) rfl
       rw[←Nat.add_assoc]at this
       exact this
      case rest=>
       clear q0 d0 d1 d2 d3 d4 d5 LP hgr hg1 hg2 hr1
       obtain⟨w2,rfl⟩:∃w2:World,w2=wc:=⟨_,rfl⟩
       have hset:(T.set k (id,({x with closed:=true}:bf)))[k]? =some (id,({x with closed:=true}:bf)):=by
        have hk1:k<T.length:=by have:=fV.out;omega
        rw[List.getElem?_set_self hk1]
       have PV:=Lib.hid hset
       have H6:Hid (n=(T.set k (id,({x with closed:=true}:bf))).length):=by
        show n=_
        rw[List.length_set];exact fV.out
       clear hset
       obtain⟨g2,off2,c2z,q0,-,-,hlc,qf,hgr,hg1,hg2,hr1,gf,d0,d1,d2,d3,d4,d5⟩:=hcut.facts PV.out
       rw[←H6.out]at q0
       have LP:=gf (off2+k*6+4)
       have D8:=Lib.hid hcut
       have Oy:=Lib.hid q0
       clear hcut qf gf hlc
       go_upto_region 10 with(fail)
       go_cut [] (fun wx=>dJ F w r (aT id (fun x:bf=>{x with closed:=true,aS:=aS}) T) (.tuple #[]) (.returned (.tuple #[])) wx)
       case first=>
        go_wp2_with fail
        go_meet
        have h0:=Oy.out
        rw[H6.out]at h0
        have:=bq.fE D8.out (by rw[←H6.out]at h0⊢;exact h0) (k:=k) (j:=4) (q':=(id,{x with closed:=true,aS:=aS})) (v:= .int .u64 aS) PV.out (by omega) rfl
        rw[←Nat.add_assoc]at this
        rw[List.set_set]at this
        have h7:=eX.qD HH.out pR.out this (.tuple #[])
        have h8:=mD (f:=fun x:bf=>{x with closed:=true,aS:=aS}) HS.out BR.out
        simp only at h8
        rw[h8]at h7
        refine⟨h7.1,h7.2.1,?_⟩
        rw[ni (fun _=>by exact rfl),kV (fun _=>by exact rfl)]
        exact h7.2.2
       case rest=>
        clear q0 d0 d1 d2 d3 d4 d5 LP hgr hg1 hg2 hr1
        obtain⟨w3,rfl⟩:∃w3:World,w3=wc:=⟨_,rfl⟩
        have HT3:=Lib.hid hcut
        have uF:=hcut.2.2
        have hr3:r<w3.heap.size:=uF.low r uF.own
        have hset:(aT id (fun x:bf=>{x with closed:=true,aS:=aS}) T)[k]? =some (id,({x with closed:=true,aS:=aS}:bf)):=by
         have h8:=mD (f:=fun x:bf=>{x with closed:=true,aS:=aS}) HS.out BR.out
         simp only at h8
         have hk1:k<T.length:=by have:=fV.out;omega
         rw[←h8,List.getElem?_set_self hk1]
        obtain⟨bG,oG,cG,e0,XL,hbG,XM,-,-,e2,-,-,-⟩:=uF.node hset
        simp only at e2
        rw[fD,←fV.out]at e0
        have PW:Hid (aF id (aT id (fun x:bf=>{x with closed:=true,aS:=aS}) T)=some ({x with closed:=true,aS:=aS}:bf)):=by
         show aF id (aT id (fun x:bf=>{x with closed:=true,aS:=aS}) T)=_
         rw[bF,if_pos rfl,HX.out]
         rfl
        have HSL:Hid (aJ gL (aT id (fun x:bf=>{x with closed:=true,aS:=aS}) T)∧(aT id (fun x:bf=>{x with closed:=true,aS:=aS}) T).length≤64):=by
         refine⟨jd _ _ HS.out,?_⟩
         rw[fD,←fV.out]
         exact hlen
        have RI:=Lib.hid (rO id _ w3 uF HSL.out.1 HSL.out.2 PW.out (mg.out.file (mg.out.kind.resolve_right hkx)))
        clear hcut uF hset XL XM
        go_wp2_with fail
        (with_reducible refine RI.out.mono ?_)
        rintro e w4 EB
        have BL:=Lib.hid EB
        obtain rfl:=EB.1
        clear EB
        go_wp2_with fail
        go_ret
        rw[HQ.out]
        exact(HT3.out.trans HH.out.low BL.out).val _
    ·rw[if_neg h9]at HQ
     have e9:(x.links==0)=false:=by simpa using h9
     clear h9
     go_enter Tryz.func24,Tryz.ntmps24
     go_wp2_with fail
     (with_reducible refine HF.out.mono ?_)
     rintro e w1 ⟨rfl,rfl⟩
     go_upto_region 8 with(fail)
     go_cut [] (fun wx=>bq w r (.slice aD (List.map (fun q:Int×bf=>q.2.b) T).length cD) (.slice aE (aQ T).length cE) T wx)
     case first=>
      go_wp2_with ((at_builtin;refine fK rfl _ _ 99 rfl w.heap.size 98 _ _ 6 48 Tryz.underlying99 fA.out.1 fA.out.2.1 fA.out.2.2.1 fA.out.2.2.2 rfl (by omega) _ 0 [] rfl (bZ (MapKept.heap_alloc w _).1 (Nat.le_refl _)) _ n _ (T.flatMap bA) rfl (Kg.out.below ((Below.refl _ _).alloc (Nat.le_refl _) _) (Nat.le_refl _)) (dx _) (by unfold maxLen;omega) (by omega) (by simp) ?_;intro A1 c1' w1 hown1 hb1;have hB1:=((Below.refl w.heap.size w).alloc (Nat.le_refl _) _).trans hb1;have hf1:w1.frozen? ⟨r,0,none⟩=false:=(hB1.frozen (p:=⟨r,0,none⟩) hrw).trans hf0;have PU:=(hB1.cell (p:=⟨r,0,none⟩) hrw).trans p0))
      go_meet
      obtain⟨-,hcc,-,hrow2⟩:=mF (w:=w) hown1 (by unfold maxLen;omega) (Nat.le_refl _)
      have hn:=fV.out
      rw[List.nil_append,Nat.zero_add,hn]at hrow2
      rw[Nat.zero_add,hn]at hcc
      have:=bq.RG hrw pR.out hB1 hcc hrow2 (jM hown1)
      rw[←hn]at this
      exact this
     case rest=>
      obtain⟨w1,rfl⟩:∃w1:World,w1=wc:=⟨_,rfl⟩
      obtain⟨g,off,c,q0,-,-,hlc,qf,hgr,hg1,hg2,hr1,gf,d0,d1,d2,d3,d4,d5⟩:=hcut.facts BR.out
      rw[←fV.out]at q0
      have LP:=gf (off+k*6+5)
      have HM:=Lib.hid hcut
      have wX:=Lib.hid q0
      clear hcut qf gf hlc
      go_upto_region 9 with(fail)
      go_cut [] (fun wx=>bq w r (.slice aD (List.map (fun q:Int×bf=>q.2.b) T).length cD) (.slice aE (aQ T).length cE) (T.set k (id,({x with closed:=true}:bf))) wx)
      case first=>
       go_wp2_with fail
       go_meet
       have h0:=wX.out
       rw[fV.out]at h0
       have:=bq.fE HM.out (by rw[←fV.out]at h0⊢;exact h0) (k:=k) (j:=5) (q':=(id,{x with closed:=true})) (v:= .bool true) BR.out (by omega) rfl
       rw[←Nat.add_assoc]at this
       exact this
      case rest=>
       clear q0 d0 d1 d2 d3 d4 d5 LP hgr hg1 hg2 hr1
       obtain⟨w2,rfl⟩:∃w2:World,w2=wc:=⟨_,rfl⟩
       have hset:(T.set k (id,({x with closed:=true}:bf)))[k]? =some (id,({x with closed:=true}:bf)):=by
        have hk1:k<T.length:=by have:=fV.out;omega
        rw[List.getElem?_set_self hk1]
       have PV:=Lib.hid hset
       have H6:Hid (n=(T.set k (id,({x with closed:=true}:bf))).length):=by
        show n=_
        rw[List.length_set];exact fV.out
       clear hset
       obtain⟨g2,off2,c2z,q0,-,-,hlc,qf,hgr,hg1,hg2,hr1,gf,d0,d1,d2,d3,d4,d5⟩:=hcut.facts PV.out
       rw[←H6.out]at q0
       have LP:=gf (off2+k*6+4)
       have D8:=Lib.hid hcut
       have Oy:=Lib.hid q0
       clear hcut qf gf hlc
       go_upto_region 10 with(fail)
       go_cut [] (fun wx=>dJ F w r (aT id (fun x:bf=>{x with closed:=true,aS:=aS}) T) (.tuple #[]) (.returned (.tuple #[])) wx)
       case first=>
        go_wp2_with fail
        go_meet
        have h0:=Oy.out
        rw[H6.out]at h0
        have:=bq.fE D8.out (by rw[←H6.out]at h0⊢;exact h0) (k:=k) (j:=4) (q':=(id,{x with closed:=true,aS:=aS})) (v:= .int .u64 aS) PV.out (by omega) rfl
        rw[←Nat.add_assoc]at this
        rw[List.set_set]at this
        have h7:=eX.qD HH.out pR.out this (.tuple #[])
        have h8:=mD (f:=fun x:bf=>{x with closed:=true,aS:=aS}) HS.out BR.out
        simp only at h8
        rw[h8]at h7
        refine⟨h7.1,h7.2.1,?_⟩
        rw[ni (fun _=>by exact rfl),kV (fun _=>by exact rfl)]
        exact h7.2.2
       case rest=>
        clear q0 d0 d1 d2 d3 d4 d5 LP hgr hg1 hg2 hr1
        obtain⟨w3,rfl⟩:∃w3:World,w3=wc:=⟨_,rfl⟩
        have HT3:=Lib.hid hcut
        have uF:=hcut.2.2
        have hr3:r<w3.heap.size:=uF.low r uF.own
        have hset:(aT id (fun x:bf=>{x with closed:=true,aS:=aS}) T)[k]? =some (id,({x with closed:=true,aS:=aS}:bf)):=by
         have h8:=mD (f:=fun x:bf=>{x with closed:=true,aS:=aS}) HS.out BR.out
         simp only at h8
         have hk1:k<T.length:=by have:=fV.out;omega
         rw[←h8,List.getElem?_set_self hk1]
        obtain⟨bG,oG,cG,e0,XL,hbG,XM,-,-,e2,-,-,-⟩:=uF.node hset
        simp only at e2
        rw[fD,←fV.out]at e0
        have PW:Hid (aF id (aT id (fun x:bf=>{x with closed:=true,aS:=aS}) T)=some ({x with closed:=true,aS:=aS}:bf)):=by
         show aF id (aT id (fun x:bf=>{x with closed:=true,aS:=aS}) T)=_
         rw[bF,if_pos rfl,HX.out]
         rfl
        have HSL:Hid (aJ gL (aT id (fun x:bf=>{x with closed:=true,aS:=aS}) T)∧(aT id (fun x:bf=>{x with closed:=true,aS:=aS}) T).length≤64):=by
         refine⟨jd _ _ HS.out,?_⟩
         rw[fD,←fV.out]
         exact hlen
        have RI:=Lib.hid (rO id _ w3 uF HSL.out.1 HSL.out.2 PW.out (mg.out.file (mg.out.kind.resolve_right hkx)))
        clear hcut uF hset XL XM
        go_wp2_with fail
        go_ret
        rw[HQ.out]
        exact HT3.out.val _
 ·have HQ:=Lib.hid (sW (T:=T) (id:=id) (aS:=aS) (v:=cK T id) (by
   unfold nT cK at*
   cases hx:aF id T with
   |none=>rfl
   |some x=>
    rw[hx]at h0
    by_cases hk:x.kind=2
    ·simp[hk]
    ·exact absurd (by simp[hk]) h0) h0)
  generalize cK T id=f at*
  have hne:(f==0)=false:=by simpa using h0
  have hne2:(f !=0)=true:=by simpa using h0
  clear h hT h0
  go_enter Tryz.func24,Tryz.ntmps24
  go_wp2_with fail
  (with_reducible refine HF.out.mono ?_)
  rintro e w1 ⟨rfl,rfl⟩
  go_wp2_with fail
  go_ret
  exact dJ.no HH.out (Below.refl _ _) HQ.out
end
end Go.Proofs.YtohpcppeajijnaaGreat
