/- package sha: New; slices.Clone of bytes as a row of one's own. package sha: constants. package sha: New; Write of a new stream. package sha: Write of a new stream. package sha: what is hashed, plainly. package sha: (*Stream).Sum. package sha: Sum. package snap: Take. TreeBack: the walk. -/
import Derived.Test.YtohpcppeajijnaaGreatM45
import Derived.Test.YtohpcppeajijnaaGreatM36
import Derived.Deep.WholeRow
import Derived.Test.YtohpcppeajijnaaGreatM44
import Derived.Test.YtohpcppeajijnaaGreatM05
namespace Go.Proofs.YtohpcppeajijnaaGreat
open Go.ChangeShapes Go.WideShapes Go.ChangeAt Go.RowKit
set_option linter.unusedVariables false
set_option linter.unusedSimpArgs false
theorem JN {T:aF} (hT:dG T):(iY T).length≤6000000:=by
 have h1:=qH hT T (fun q hq=>hq)
 have h2:=hT.len
 unfold iY
 rw[List.length_append,fu]
 omega
section
variable {W w:World} {o:Mark} {i j s p:Nat} {S:RL} {T:aF}
end
end Go.Proofs.YtohpcppeajijnaaGreat
namespace Go.Proofs.YtohpcppeajijnaaGreat.treeBack
open Go.ChangeShapes Go.WideShapes Go.ChangeAt Go.RowKit
set_option linter.unusedVariables false
set_option linter.unusedSimpArgs false
open Classical in
theorem OZ {W w:World} {P:Nat→Prop} {t:Nat} {T:aF} (h:cO W P w t T) (j:Nat):∃o:Mark,Marks W o w∧f_ o j w t T∧∀b,o b=0∨o b=j:=by
 obtain⟨g,D,mb,ib,nb,hA,hF⟩:=h.at_
 obtain⟨o,ho⟩:∃o:Mark,∀b,o b=if g b≠ .none then j else 0:=⟨_,fun _=>rfl⟩
 refine⟨o,⟨fun b hb=> ?_,h.below⟩,⟨g,D,mb,ib,nb,hA,fun b hb=> ?_,fun b hb=> ?_⟩,fun b=> ?_⟩
 ·rw[ho]at hb
  by_cases hg:g b≠ .none
  ·exact⟨(hF b (.inl hg)).1,hA.low b hg⟩
  ·rw[if_neg hg]at hb;exact absurd rfl hb
 ·rw[ho,if_pos hb]
 ·rw[ho,if_neg (by rw[hA.data b hb];simp)]
 ·rw[ho]
  by_cases hg:g b≠ .none
  ·exact .inr (if_pos hg)
  ·exact .inl (if_neg hg)
def Four (W:World) (t u r s:Nat) (iv:Value) (wr:World):Prop:=∃(k:Nat) (o:Mark) (T R:aF),iv= .int .i64 k∧k≤15∧lI W o 1 3 wr t r T R∧lI W o 2 4 wr u s T R
theorem Cx {W w w':World} {o o':Mark} {a b i j t r:Nat} {T R:aF} (h:lI W o i j w t r T R) (ha:0<a) (hb:0<b) (h1:i≠a) (h2:i≠b) (h3:j≠a) (h4:j≠b) (hs:Step o (Two a b) w o' w'):lI W o' i j w' t r T R:=by
 have h0:¬Two a b 0:=fun e=>by rcases e with e|e<;>omega
 have hi:¬Two a b i:=fun e=>by rcases e with e|e<;>omega
 have hj:¬Two a b j:=fun e=>by rcases e with e|e<;>omega
 exact⟨h.marks.step h0 hs,h.tree.step h0 hi hs,h.ref.step h0 hj hs,h.OT,h.OU⟩
set_option maxRecDepth 100000 in
set_option maxHeartbeats 16000000 in
theorem walk {H:Type} {enc:TypeId×Value→H} (W:World) (base:Nat) (v0:Value) (d0:DataW H) (p0:List MemPlace) (o0:Value.okWide Tryz.prog W .any base 71 v0) (h0:DataW.Trod enc Tryz.prog W 0 (fun _=>true) true 71 v0 d0 p0) (l0:∀x∈p0,x.block<W.heap.size) (v1:Value) (d1:DataW H) (p1:List MemPlace) (o1:Value.okWide Tryz.prog W .any base 71 v1) (h1:DataW.Trod enc Tryz.prog W 0 (fun _=>true) true 71 v1 d1 p1) (l1:∀x∈p1,x.block<W.heap.size) (hsz:(DataW.weightsEach Tryz.prog [71,71] ([d0,d1]:List (DataW H))).all (· ≤reachBytes)=true):
  Calls Tryz.prog 7 #[v0,v1] W (RP W):=by
 obtain⟨a,len,cap,rfl,hlc,hA⟩:∃a len cap,v0= .slice a len cap∧len≤cap∧EL W a len:=by
  obtain⟨a0,len,cap,rfl⟩:=okWide_slice Tryz.underlying71 o0
  obtain⟨fuel,hf⟩:=h0
  refine uV hf l0 fun n hn=> ?_
  rw[List.all_eq_true]at hsz
  exact of_decide_eq_true (hsz n (jL (j:=0) rfl rfl n hn))
 obtain⟨a',len',cap',rfl,Yu,hA'⟩:∃a len cap,v1= .slice a len cap∧len≤cap∧EL W a len:=by
  obtain⟨a0,len,cap,rfl⟩:=okWide_slice Tryz.underlying71 o1
  obtain⟨fuel,hf⟩:=h1
  refine uV hf l1 fun n hn=> ?_
  rw[List.all_eq_true]at hsz
  exact of_decide_eq_true (hsz n (jL (j:=1) rfl rfl n hn))
 have qK:=Lib.hid (D_ a len cap hA (Below.refl W.heap.size W))
 have U0:=hA'.1
 unfold maxLen at U0
 have HA:=Lib.hid hA'
 clear o0 h0 l0 o1 h1 l1 hsz hlc hA hA'
 go_enter Tryz.func7,Tryz.ntmps7
 go_wp2_with fail
 (with_reducible refine qK.out.mono ?_)
 rintro e w1 ⟨t,r0,rfl,T,⟨P,F,BQ⟩,hb1⟩
 obtain⟨o1,hM1,hT1,hz1⟩:=OZ BQ.tree 1
 have HO:=Lib.hid BQ.okay
 have Cc:=Lib.hid hM1
 have HT1:=Lib.hid hT1
 have xU:Hid (fU T∧dG T):=⟨BQ.okay.1,BQ.okay.1.1⟩
 clear BQ hb1 qK hM1 hT1 hz1
 have V_:=Lib.hid (qI HT1.out xU.out.2)
 go_wp2_with fail
 (with_reducible refine V_.out.mono ?_)
 rintro e w2 ⟨ra,rn,rc,rfl,hrc,hrr,hb2⟩
 have hrl:rn≤100000000:=by
  have h9:=hrr.length
  have h8:=JN xU.out.2
  simp only[List.length_map]at h9
  omega
 have JO:=Lib.hid (hrr.Jh Cc.out)
 have zW:=Lib.hid (Cc.out.grow hb2)
 have HT2:=Lib.hid (HT1.out.grow hb2)
 clear hrr hb2 V_ Cc HT1
 have Rs:=Lib.hid (GH ra rn rc (iY T) w2 hrl JO.out)
 go_wp2_with fail
 (with_reducible refine Rs.out.mono ?_)
 rintro e w3 hld
 obtain⟨u,rfl,hN⟩:=hld.yes xU.out.1
 obtain⟨o3,hs3,Wd⟩:=hN.mark zW.out 2
 have Wh:=Lib.hid Wd
 have C_:=Lib.hid (zW.out.step1 (by omega) hs3)
 have HT3:=Lib.hid (HT2.out.step1 (by omega) (by omega) hs3)
 have MW:=Lib.hid (JO.out.Q7 (by omega) hs3)
 clear hld hN hs3 Wd Rs zW HT2 JO
 go_wp2_with fail
 have Wi:=Lib.hid (C_.out.grow (Below.refl _ _).drew)
 have Wj:=Lib.hid (HT3.out.grow (Below.refl _ _).drew)
 have Mc:=Lib.hid (Wh.out.grow (Below.refl _ _).drew)
 have U1:=Lib.hid (MW.out.below (Below.refl _ _).drew (Nat.le_refl _))
 clear C_ HT3 Wh MW
 refine wp_region_noPanic ?_
 refine wp_region_held_drew (S:=(fun w'=>(convert 39 9 (.slice ra rn rc)).run Tryz.prog w'= .ok (.string (strOf (iY T))) w')) (by kernel_rfl) ?_ (fun hS=> ?_)
 ·exact dK (c:=rc) U1.out
 refine aS 0 (hS:=hS) (h:= ?_)
 refine aS 1 (hS:=hS) (h:= ?_)
 refine aS 2 (hS:=hS) (h:= ?_)
 refine aS 3 (hS:=hS) (h:= ?_)
 refine aS 4 (hS:=hS) (h:= ?_)
 refine aS 5 (hS:=hS) (h:= ?_)
 refine aS 6 (hS:=hS) (h:= ?_)
 refine aS 7 (hS:=hS) (h:= ?_)
 refine aS 10 (hS:=hS) (h:= ?_)
 refine aS 11 (hS:=hS) (h:= ?_)
 have MX:=Lib.hid (qI Mc.out xU.out.2)
 refine p9 8 (h:=fun K hK=> ?_)
 go_simp
 (with_reducible refine MX.out.mono ?_)
 rintro e w4 ⟨ua,un,uc,rfl,huc,hur,hb4⟩
 have Md:=Lib.hid hur
 have Me:=Lib.hid (U1.out.below hb4 (Nat.le_refl _))
 have vG:=Lib.hid (Wi.out.grow hb4)
 have rJ:=Lib.hid (Wj.out.grow hb4)
 have Ea:=Lib.hid (Mc.out.grow hb4)
 clear hur hb4 MX Wi Wj Mc U1
 go_wp2_with fail
 refine hK.out _ _ (dK (c:=rc) Me.out) (fun hS=> ?_)
 clear hK K
 try simp only[Act.put,List.setIfInBounds_toArray,List.set_cons_zero,List.set_cons_succ]
 refine jH (S':=fun w'=>(convert 39 9 (.slice ra rn rc)).run Tryz.prog w'= .ok (.string (strOf (iY T))) w'∧(convert 39 9 (.slice ua un uc)).run Tryz.prog w'= .ok (.string (strOf (iY T))) w') (fun _ h=>h.1) _ _ _ _ ?_
 have Rc:=And.intro hS (dK (c:=uc) Md.out)
 clear hS
 have hS:=Rc
 clear Rc
 refine aS 9 (hS:=hS) (h:= ?_)
 refine aS 12 (hS:=hS) (h:= ?_)
 refine aS 13 (hS:=hS) (h:= ?_)
 refine aS 14 (hS:=hS) (h:= ?_)
 refine aS 15 (hS:=hS) (h:= ?_)
 refine aS 17 (hS:=hS) (h:= ?_)
 have Wm:=Lib.hid (xQ Ea.out)
 have CF:=Lib.hid (xQ rJ.out)
 refine p9 16 (h:=fun K hK=> ?_)
 go_simp
 (with_reducible refine Wm.out.mono ?_)
 rintro e w5 ⟨rfl,rfl⟩
 go_wp2_with fail
 refine hK.out _ _ (⟨dK (c:=rc) Me.out,dK (c:=uc) Md.out⟩) (fun hS=> ?_)
 clear hK K
 try simp only[Act.put,List.setIfInBounds_toArray,List.set_cons_zero,List.set_cons_succ]
 refine p9 18 (h:=fun K hK=> ?_)
 go_simp
 (with_reducible refine CF.out.mono ?_)
 rintro e w5 ⟨rfl,rfl⟩
 go_wp2_with fail
 refine hK.out _ _ (⟨dK (c:=rc) Me.out,dK (c:=uc) Md.out⟩) (fun hS=> ?_)
 clear hK K
 try simp only[Act.put,List.setIfInBounds_toArray,List.set_cons_zero,List.set_cons_succ]
 refine aS 19 (hS:=hS) (h:= ?_)
 refine aS 20 (hS:=hS) (h:= ?_)
 refine wpAnyH_done (by kernel_rfl) ?_ _
 refine NoPanic.normal ?_
 clear hS Wm CF Me Md
 have Pg:=Lib.hid (Cg vG.out 3)
 go_wp2_with fail
 (with_reducible refine Pg.out.mono ?_)
 rintro e w5 ⟨r,o5,rfl,hs5,xS⟩
 have Rz:=Lib.hid xS
 have JZ:=Lib.hid (vG.out.step1 (by omega) hs5)
 have yO:=Lib.hid (rJ.out.step1 (by omega) (by omega) hs5)
 have Wn:=Lib.hid (Ea.out.step1 (by omega) (by omega) hs5)
 clear hs5 xS Pg vG rJ Ea
 have Wo:=Lib.hid (Cg JZ.out 4)
 go_wp2_with fail
 (with_reducible refine Wo.out.mono ?_)
 rintro e w6 ⟨s,o6,rfl,hs6,oo⟩
 have QB:Hid (lI W o6 1 3 w6 t r T kV):=⟨JZ.out.step1 (by omega) hs6,yO.out.step1 (by omega) (by omega) hs6,Rz.out.step (I:=fun k=>k=4) (by decide) (by decide) hs6,HO.out,mQ.new⟩
 have Wp:Hid (lI W o6 2 4 w6 u s T kV):=⟨JZ.out.step1 (by omega) hs6,Wn.out.step1 (by omega) (by omega) hs6,oo,HO.out,mQ.new⟩
 clear hs6 oo Wo JZ yO Wn Rz HO xU
 go_wp2_with fail
 go_loopw [12] (fun iv wr=>Four W t u r s iv wr) (fun iv _=>15-(intOf iv).toNat)
 case atStart=>exact⟨0,o6,T,kV,rfl,by omega,QB.out,Wp.out⟩
 case round=>
  clear QB Wp
  obtain⟨k,o7,T,R,rfl,hk,hS,hU⟩:=hrel
  have HS:=Lib.hid hS
  have HU:=Lib.hid hU
  clear hS hU
  by_cases hlt:k<len'
  ·have hd1:decide ((k:Int)<(len':Int))=true:=by simp;omega
   by_cases Zi:k<15
   ·have hd2:decide ((k:Int)<15)=true:=by simp;omega
    obtain⟨g,off,rfl,hgw,hAk⟩:=HA.out.2 (by omega)
    obtain⟨x,ba,bn,bc,hx⟩:=hAk k hlt
    obtain⟨d0,d1,d2,d3,d4,d5,d6,d7,d8⟩:=hx.cells
    have hbW:=HS.out.marks.below
    have c0:=(hbW.cell (p:=⟨g,off+k*9,none⟩) hgw).trans d0
    have c1:=(hbW.cell (p:=⟨g,off+k*9+1,none⟩) hgw).trans d1
    have c2:=(hbW.cell (p:=⟨g,off+k*9+2,none⟩) hgw).trans d2
    have c3:=(hbW.cell (p:=⟨g,off+k*9+3,none⟩) hgw).trans d3
    have c4:=(hbW.cell (p:=⟨g,off+k*9+4,none⟩) hgw).trans d4
    have c5:=(hbW.cell (p:=⟨g,off+k*9+5,none⟩) hgw).trans d5
    have c6:=(hbW.cell (p:=⟨g,off+k*9+6,none⟩) hgw).trans d6
    have c7:=(hbW.cell (p:=⟨g,off+k*9+7,none⟩) hgw).trans d7
    have c8:=(hbW.cell (p:=⟨g,off+k*9+8,none⟩) hgw).trans d8
    have HX:=Lib.hid hx
    have J4:=Lib.hid (MV x ba bn bc HS.out (by omega) (by omega) (by omega) hx.ok (hx.row.below hbW (Nat.le_refl _)) hx.cap hx.reach)
    unfold nN at J4
    have i0:(0:Int)≤(k:Int):=by omega
    have i1:(k:Int)<(len':Int):=by omega
    clear hAk hx hbW d0 d1 d2 d3 d4 d5 d6 d7 d8
    go_wp2_with fail
    (with_reducible refine J4.out.mono ?_)
    rintro e w7 ⟨b7,o8,rfl,mH,vL⟩
    have Wq:=Lib.hid (Cx HU.out (by omega) (by omega) (by omega) (by omega) (by omega) (by omega) mH)
    have CP:=Lib.hid vL
    have hbW:=vL.marks.below
    obtain⟨d0,d1,d2,d3,d4,d5,d6,d7,d8⟩:=HX.out.cells
    clear c0 c1 c2 c3 c4 c5 c6 c7 c8 J4 mH vL HU HS
    have c0:=(hbW.cell (p:=⟨g,off+k*9,none⟩) hgw).trans d0
    have c1:=(hbW.cell (p:=⟨g,off+k*9+1,none⟩) hgw).trans d1
    have c2:=(hbW.cell (p:=⟨g,off+k*9+2,none⟩) hgw).trans d2
    have c3:=(hbW.cell (p:=⟨g,off+k*9+3,none⟩) hgw).trans d3
    have c4:=(hbW.cell (p:=⟨g,off+k*9+4,none⟩) hgw).trans d4
    have c5:=(hbW.cell (p:=⟨g,off+k*9+5,none⟩) hgw).trans d5
    have c6:=(hbW.cell (p:=⟨g,off+k*9+6,none⟩) hgw).trans d6
    have c7:=(hbW.cell (p:=⟨g,off+k*9+7,none⟩) hgw).trans d7
    have c8:=(hbW.cell (p:=⟨g,off+k*9+8,none⟩) hgw).trans d8
    have J4:=Lib.hid (MV x ba bn bc Wq.out (by omega) (by omega) (by omega) HX.out.ok (HX.out.row.below hbW (Nat.le_refl _)) HX.out.cap HX.out.reach)
    unfold nN at J4
    clear hbW d0 d1 d2 d3 d4 d5 d6 d7 d8
    go_wp2_with fail
    (with_reducible refine J4.out.mono ?_)
    rintro e w8 ⟨b8,o9,rfl,Pk,Ws⟩
    have Yv:=Lib.hid (Cx CP.out (by omega) (by omega) (by omega) (by omega) (by omega) (by omega) Pk)
    have Yw:=Lib.hid Ws
    clear Pk Ws J4 Wq CP c0 c1 c2 c3 c4 c5 c6 c7 c8
    go_wp2_with fail
    go_roundw
    case rel=>exact⟨k+1,o9,_,_,by go_num,by omega,Yv.out,Yw.out⟩
    case measure=>simp[intOf];omega
   ·have hd2:decide ((k:Int)<15)=false:=by simp;omega
    have O4:=Lib.hid (HS.out.grow (Below.refl _ _).drew)
    have Mc:=Lib.hid (HU.out.grow (Below.refl _ _).drew)
    have MX:=Lib.hid (qI O4.out.tree O4.out.sV)
    clear HS HU
    go_wp2_with fail
    refine wp_region_noPanic ?_
    refine wp_region_held_drew (S:=(fun _=>True)) (by kernel_rfl) ?_ (fun hS=> ?_)
    ·exact trivial
    refine aS 0 (hS:=hS) (h:= ?_)
    refine aS 3 (hS:=hS) (h:= ?_)
    refine p9 1 (h:=fun K hK=> ?_)
    go_simp
    (with_reducible refine MX.out.mono ?_)
    rintro e w4 ⟨ra,rn,rc,rfl,hrc,hrr,hb4⟩
    have HRR:=Lib.hid hrr
    have Ea:=Lib.hid (Mc.out.grow hb4)
    clear hrr hb4 MX O4 Mc
    go_wp2_with fail
    refine hK.out _ _ (trivial) (fun hS=> ?_)
    clear hK K
    try simp only[Act.put,List.setIfInBounds_toArray,List.set_cons_zero,List.set_cons_succ]
    refine jH (S':=fun w'=>True∧(convert 39 9 (.slice ra rn rc)).run Tryz.prog w'= .ok (.string (strOf (iY T))) w') (fun _ h=>h.1) _ _ _ _ ?_
    have Rf:=And.intro hS (dK (c:=rc) HRR.out)
    clear hS
    have hS:=Rf
    clear Rf
    refine aS 2 (hS:=hS) (h:= ?_)
    have Rh:=Lib.hid (qI Ea.out.tree Ea.out.sV)
    refine p9 4 (h:=fun K hK=> ?_)
    go_simp
    (with_reducible refine Rh.out.mono ?_)
    rintro e w5 ⟨ua,un,uc,rfl,huc,hur,hb5⟩
    have O5:=Lib.hid hur
    have Eb:=Lib.hid (HRR.out.kept hb5.size (fun b hb _=>hb5.block b hb.2))
    have JQ:=Lib.hid (Ea.out.marks.below.trans (hb5.mono Ea.out.marks.below.size))
    clear hur hb5 Rh Ea HRR
    go_wp2_with fail
    refine hK.out _ _ (⟨trivial,dK (c:=rc) Eb.out⟩) (fun hS=> ?_)
    clear hK K
    try simp only[Act.put,List.setIfInBounds_toArray,List.set_cons_zero,List.set_cons_succ]
    refine jH (S':=fun w'=>(True∧(convert 39 9 (.slice ra rn rc)).run Tryz.prog w'= .ok (.string (strOf (iY T))) w')∧(convert 39 9 (.slice ua un uc)).run Tryz.prog w'= .ok (.string (strOf (iY T))) w') (fun _ h=>h.1) _ _ _ _ ?_
    have Ri:=And.intro hS (dK (c:=uc) O5.out)
    clear hS
    have hS:=Ri
    clear Ri
    refine aS 5 (hS:=hS) (h:= ?_)
    refine aS 6 (hS:=hS) (h:= ?_)
    refine aS 7 (hS:=hS) (h:= ?_)
    refine p9 8 (h:=fun K hK=> ?_)
    go_simp
    (with_reducible refine(vo w5).mono ?_)
    rintro e w9 ⟨rfl,qP⟩
    have O6:=Lib.hid (O5.out.kept qP.size (fun b hb hbw=>qP.block b hbw))
    have O7:=Lib.hid (Eb.out.kept qP.size (fun b hb hbw=>qP.block b hbw))
    have zx:=Lib.hid (JQ.out.trans (qP.mono JQ.out.size))
    clear qP Eb O5
    go_wp2_with fail
    refine hK.out _ _ (⟨⟨trivial,dK (c:=rc) O7.out⟩,dK (c:=uc) O6.out⟩) (fun hS=> ?_)
    clear hK K
    try simp only[Act.put,List.setIfInBounds_toArray,List.set_cons_zero,List.set_cons_succ]
    refine aS 9 (hS:=hS) (h:= ?_)
    refine aS 10 (hS:=hS) (h:= ?_)
    refine wpAnyH_done (by kernel_rfl) ?_ _
    refine NoPanic.normal ?_
    clear hS
    go_wp2_with fail
    go_ret
    exact⟨rfl,zx.out⟩
  ·have hd1:decide ((k:Int)<(len':Int))=false:=by simp;omega
   have O4:=Lib.hid (HS.out.grow (Below.refl _ _).drew)
   have Mc:=Lib.hid (HU.out.grow (Below.refl _ _).drew)
   have MX:=Lib.hid (qI O4.out.tree O4.out.sV)
   clear HS HU
   go_wp2_with fail
   refine wp_region_noPanic ?_
   refine wp_region_held_drew (S:=(fun _=>True)) (by kernel_rfl) ?_ (fun hS=> ?_)
   ·exact trivial
   refine aS 0 (hS:=hS) (h:= ?_)
   refine aS 3 (hS:=hS) (h:= ?_)
   refine p9 1 (h:=fun K hK=> ?_)
   go_simp
   (with_reducible refine MX.out.mono ?_)
   rintro e w4 ⟨ra,rn,rc,rfl,hrc,hrr,hb4⟩
   have HRR:=Lib.hid hrr
   have Ea:=Lib.hid (Mc.out.grow hb4)
   clear hrr hb4 MX O4 Mc
   go_wp2_with fail
   refine hK.out _ _ (trivial) (fun hS=> ?_)
   clear hK K
   try simp only[Act.put,List.setIfInBounds_toArray,List.set_cons_zero,List.set_cons_succ]
   refine jH (S':=fun w'=>True∧(convert 39 9 (.slice ra rn rc)).run Tryz.prog w'= .ok (.string (strOf (iY T))) w') (fun _ h=>h.1) _ _ _ _ ?_
   have Rj:=And.intro hS (dK (c:=rc) HRR.out)
   clear hS
   have hS:=Rj
   clear Rj
   refine aS 2 (hS:=hS) (h:= ?_)
   have Rh:=Lib.hid (qI Ea.out.tree Ea.out.sV)
   refine p9 4 (h:=fun K hK=> ?_)
   go_simp
   (with_reducible refine Rh.out.mono ?_)
   rintro e w5 ⟨ua,un,uc,rfl,huc,hur,hb5⟩
   have O5:=Lib.hid hur
   have Eb:=Lib.hid (HRR.out.kept hb5.size (fun b hb _=>hb5.block b hb.2))
   have JQ:=Lib.hid (Ea.out.marks.below.trans (hb5.mono Ea.out.marks.below.size))
   clear hur hb5 Rh Ea HRR
   go_wp2_with fail
   refine hK.out _ _ (⟨trivial,dK (c:=rc) Eb.out⟩) (fun hS=> ?_)
   clear hK K
   try simp only[Act.put,List.setIfInBounds_toArray,List.set_cons_zero,List.set_cons_succ]
   refine jH (S':=fun w'=>(True∧(convert 39 9 (.slice ra rn rc)).run Tryz.prog w'= .ok (.string (strOf (iY T))) w')∧(convert 39 9 (.slice ua un uc)).run Tryz.prog w'= .ok (.string (strOf (iY T))) w') (fun _ h=>h.1) _ _ _ _ ?_
   have Rk:=And.intro hS (dK (c:=uc) O5.out)
   clear hS
   have hS:=Rk
   clear Rk
   refine aS 5 (hS:=hS) (h:= ?_)
   refine aS 6 (hS:=hS) (h:= ?_)
   refine aS 7 (hS:=hS) (h:= ?_)
   refine p9 8 (h:=fun K hK=> ?_)
   go_simp
   (with_reducible refine(vo w5).mono ?_)
   rintro e w9 ⟨rfl,qP⟩
   have O6:=Lib.hid (O5.out.kept qP.size (fun b hb hbw=>qP.block b hbw))
   have O7:=Lib.hid (Eb.out.kept qP.size (fun b hb hbw=>qP.block b hbw))
   have zx:=Lib.hid (JQ.out.trans (qP.mono JQ.out.size))
   clear qP Eb O5
   go_wp2_with fail
   refine hK.out _ _ (⟨⟨trivial,dK (c:=rc) O7.out⟩,dK (c:=uc) O6.out⟩) (fun hS=> ?_)
   clear hK K
   try simp only[Act.put,List.setIfInBounds_toArray,List.set_cons_zero,List.set_cons_succ]
   refine aS 9 (hS:=hS) (h:= ?_)
   refine aS 10 (hS:=hS) (h:= ?_)
   refine wpAnyH_done (by kernel_rfl) ?_ _
   refine NoPanic.normal ?_
   clear hS
   go_wp2_with fail
   go_ret
   exact⟨rfl,zx.out⟩
end Go.Proofs.YtohpcppeajijnaaGreat.treeBack
