/- SnapPlays: the walk. -/
import Derived.Test.YtohpcppeajijnaaGreatM25
import Derived.Test.YtohpcppeajijnaaGreatM45
namespace Go.Proofs.YtohpcppeajijnaaGreat.snapPlays
open Go.ChangeShapes Go.WideShapes Go.ChangeAt Go.RowKit
set_option linter.unusedVariables false
set_option linter.unusedSimpArgs false
def Held (W:World) (p s t x y k:Nat) (w:World):Prop:=∃o A T,gY W o w p s t x y A T A T∧eY A∧A.next≤k+1
set_option maxRecDepth 100000 in
set_option maxHeartbeats 64000000 in
theorem walk {H:Type} {enc:TypeId×Value→H} (W:World) (base:Nat) (v0:Value) (d0:DataW H) (p0:List MemPlace) (o0:Value.okWide Tryz.prog W .any base 53 v0) (h0:DataW.Trod enc Tryz.prog W 0 (fun _=>true) true 53 v0 d0 p0) (l0:∀x∈p0,x.block<W.heap.size) (hsz:(DataW.weightsEach Tryz.prog [53] ([d0]:List (DataW H))).all (· ≤reachBytes)=true):
  Calls Tryz.prog 6 #[v0] W (OM W):=by
 obtain⟨a,len,cap,rfl,hlc,hA⟩:∃a len cap,v0= .slice a len cap∧len≤cap∧Lu W a len:=by
  obtain⟨a0,len,cap,rfl⟩:=okWide_slice Tryz.underlying53 o0
  obtain⟨fuel,hf⟩:=h0
  refine uh hf l0 fun n hn=> ?_
  have h1:=List.all_eq_true.1 hsz n (List.mem_append_left _ hn)
  simpa using h1
 have hlm:=hA.1
 unfold maxLen at hlm
 have HA:=Lib.hid hA
 clear o0 h0 l0 hsz hlc hA
 go_enter Tryz.func6,Tryz.ntmps6
 go_wp2_with fail
 (with_reducible refine(tH W).mono ?_)
 rintro e w1 ⟨p,s,t,x,y,o1,rfl,hS1⟩
 have HST:Hid (Held W p s t x y 0 w1):=⟨o1,gP,kr,hS1,eY.new,by simp[gP]⟩
 clear hS1
 go_upto_block 0 with(fail)
 go_cut [4]from 9 to 25 (fun i wx=>∃k,k≤50∧Held W p s t x y k wx)
 case first=>
  go_wp2_with fail
  go_loopw [4] (fun i wr=>∃k:Nat,i= .int .i64 k∧k≤50∧Held W p s t x y k wr) (fun i _=>50-(intOf i).toNat)
  case atStart=>exact⟨0,rfl,by omega,HST.out⟩
  case round=>
   obtain⟨k,rfl,Rq,o,A,T,hW,hG,hnk⟩:=hrel
   have HW:=Lib.hid hW
   have HG:=Lib.hid hG
   obtain⟨nx,hnx⟩:∃nx,nx=A.next:=⟨_,rfl⟩
   rw[←hnx]at hnk
   have qx:=Lib.hid hnx
   clear hW hG hnx
   by_cases hlt:k<len
   ·have hd1:decide (k<len)=true:=by simpa using hlt
    by_cases h50:k<50
    ·obtain⟨g,off,rfl,hgw,hAk⟩:=HA.out.2 (by omega)
     obtain⟨q,ba,bn,bc,hx⟩:=hAk k hlt
     have hbW:=HW.out.marks.below
     obtain⟨d0,d1,d2,d3,d4⟩:=hx.cells
     have c0:=(hbW.cell (p:=⟨g,off+k*5,none⟩) hgw).trans d0
     have c1:=(hbW.cell (p:=⟨g,off+k*5+1,none⟩) hgw).trans d1
     have c2:=(hbW.cell (p:=⟨g,off+k*5+2,none⟩) hgw).trans d2
     have c3:=(hbW.cell (p:=⟨g,off+k*5+3,none⟩) hgw).trans d3
     have c4:=(hbW.cell (p:=⟨g,off+k*5+4,none⟩) hgw).trans d4
     have hbr:ak (fun b=>b<W.heap.size) wr ba bn (q.b.map bv):=hx.row.below hbW (Nat.le_refl _)
     have i0:(0:Int)≤(k:Int):=by omega
     have i1:(k:Int)<(len:Int):=by omega
     have i2:(k:Int)<50:=by omega
     have hd2:decide ((k:Int)<50)=true:=by simpa using i2
     have Vj:=Lib.hid (rR q ba bn bc HW.out (by rw[←qx.out];omega) (by rw[←qx.out];omega) hx.wp hx.wi hx.wk hx.wu hbr hx.cap hx.reach)
     unfold nW at Vj
     clear hx hAk hbW d0 d1 d2 d3 d4 hbr
     go_wp2_with fail
     (with_reducible refine Vj.out.mono ?_)
     rintro e w2 ⟨bb,A2,B2,rfl,hab,hA2,_,o2,hs2,hW2⟩
     obtain⟨rfl,rfl⟩:=hab rfl
     obtain⟨hG2,n2⟩:=HG.out.ask hA2
     have VY:Hid (Held W p s t x y (k+1) w2):=⟨o2,A2,_,hW2,hG2,by rw[←qx.out]at n2;omega⟩
     clear hab hA2 hs2 hW2 hG2 n2 c0 c1 c2 c3 c4
     go_wp2_with fail
     go_roundw
     case rel=>exact⟨k+1,by go_num,by omega,VY.out⟩
     case measure=>simp[intOf];omega
    ·have hd2:decide ((k:Int)<50)=false:=by simp;omega
     have ig:Hid (Held W p s t x y k wr):=⟨o,A,T,HW.out,HG.out,by rw[←qx.out];exact hnk⟩
     go_wp2_with fail
     go_meet
     exact⟨k,Rq,ig.out⟩
   ·have hd1:decide (k<len)=false:=by simpa using hlt
    have ig:Hid (Held W p s t x y k wr):=⟨o,A,T,HW.out,HG.out,by rw[←qx.out];exact hnk⟩
    go_wp2_with fail
    go_meet
    exact⟨k,Rq,ig.out⟩
 case rest=>
  obtain⟨k,Rq,o,A,T,hW,hG,hnk⟩:=hcut
  have HW:=Lib.hid hW
  have HG:=Lib.hid hG
  have HNK:=Lib.hid (show A.next≤1000000 by omega)
  obtain⟨q0,q1,q2,q3⟩:=hW.cells
  have HCM:=Lib.hid (qg hW.tr hW.marks hW.BD)
  have LZ:=Lib.hid hW.BD.bM
  clear hW hG hnk
  go_wp2_with fail
  (with_reducible refine HCM.out.mono ?_)
  rintro e w2 ⟨r,rfl,Am,hb2⟩
  have HB2:=Lib.hid hb2
  have HT2:=Lib.hid Am
  have HW2:=Lib.hid (HW.out.grow hb2)
  obtain⟨sv,hsv⟩:∃sv,sv=fq (bM T):=⟨_,rfl⟩
  have kR:Hid (∀u,Below w2.heap.size w2 u→Calls Tryz.prog 31 #[ptr r] u (kC u sv)):=fun u hb=>by
   rw[hsv]
   exact rE (HT2.out.grow hb) LZ.out
  have Oy:Hid (∀u,Below w2.heap.size w2 u→Calls Tryz.prog 45 #[ptr y] u fun e w'=>∃q,e= .returned (ptr q)∧(∀v,Below w'.heap.size w' v→Calls Tryz.prog 32 #[ptr q] v (dS v sv))∧Below u.heap.size u w'):=fun u hb=>by
   refine(oV (HW2.out.grow hb).rt (HW2.out.grow hb).marks HW2.out.He).mono ?_
   rintro e w' ⟨q,rfl,hr,hbb⟩
   refine⟨q,rfl,fun v hv=> ?_,hbb⟩
   rw[hsv]
   exact zS (W:=W) (hr.grow hv) LZ.out
  have gq:Hid (∀u,Below w2.heap.size w2 u→u.cell? ⟨p,3,none⟩=some (ptr y)∧Below w2.heap.size w2 u):=fun u hb=>⟨(HW2.out.grow hb).cells.2.2.2,hb⟩
  clear hb2 Am q0 q1 q2 q3 hsv
  go_wp2_with fail
  refine wp_region_noPanic ?_
  refine wp_region_held_drew (S:=(fun w'=>w'.cell? ⟨p,3,none⟩=some (ptr y)∧Below w2.heap.size w2 w')) (by kernel_rfl) ?_ (fun hS=> ?_)
  ·exact gq.out _ (Below.refl _ _).drew
  refine bH 0 (hS:=hS) (h:= ?_)
  refine bH 1 (hS:=hS) (h:= ?_)
  refine bH 2 (hS:=hS) (h:= ?_)
  refine bH 3 (hS:=hS) (h:= ?_)
  refine bH 6 (hS:=hS) (h:= ?_)
  refine bH 7 (hS:=hS) (h:= ?_)
  refine bH 8 (hS:=hS) (h:= ?_)
  refine bH 9 (hS:=hS) (h:= ?_)
  refine rT 4 (h:=fun K hK=> ?_)
  go_simp
  (with_reducible refine(kR.out _ (Below.refl _ _).drew).mono ?_)
  rintro e w4 ⟨a4,n4,c4,rfl,Rw,hr4,hb4⟩
  have hB4:Below w2.heap.size w2 w4:=(Below.refl w2.heap.size w2).drew.trans hb4
  have HR4:=Lib.hid hr4
  go_wp2_with fail
  refine hK.out _ _ (gq.out _ hB4) (fun hS=> ?_)
  clear hK K
  try simp only[Act.put,List.setIfInBounds_toArray,List.set_cons_zero,List.set_cons_succ]
  refine gV (S':=fun w'=>(w'.cell? ⟨p,3,none⟩=some (ptr y)∧Below w2.heap.size w2 w')∧(convert 39 9 (.slice a4 n4 c4)).run Tryz.prog w'= .ok (.string (strOf sv)) w') (fun _ h=>h.1) _ _ _ _ ?_
  have LC:=And.intro hS (fQ (c:=c4) HR4.out)
  clear hS
  have hS:=LC
  clear LC
  refine bH 5 (hS:=hS) (h:= ?_)
  refine rT 10 (h:=fun K hK=> ?_)
  go_simp
  (with_reducible refine(Oy.out _ hB4).mono ?_)
  rintro e w5 ⟨q5,rfl,hq5,hb5⟩
  have PV:=Lib.hid hq5
  have CV:Below w2.heap.size w2 w5:=hB4.trans (hb5.mono hB4.size)
  have OL:Hid (∀u,Below w4.heap.size w4 u→(convert 39 9 (.slice a4 n4 c4)).run Tryz.prog u= .ok (.string (strOf sv)) u):=fun u hb=>fQ (c:=c4) (HR4.out.below hb (Nat.le_refl _))
  clear hq5
  go_wp2_with fail
  refine hK.out _ _ (⟨gq.out _ CV,OL.out _ hb5⟩) (fun hS=> ?_)
  clear hK K
  try simp only[Act.put,List.setIfInBounds_toArray,List.set_cons_zero,List.set_cons_succ]
  refine rT 11 (h:=fun K hK=> ?_)
  go_simp
  (with_reducible refine(PV.out _ (Below.refl _ _)).mono ?_)
  rintro e w6 ⟨a6,c6,rfl,hown6,hb6⟩
  have Ma:Below w2.heap.size w2 w6:=CV.trans (hb6.mono CV.size)
  have UO:=Lib.hid (bR hown6)
  obtain⟨nv,CJ⟩:∃nv,nv=sv.length:=⟨_,rfl⟩
  rw[←CJ]at UO⊢
  clear hown6 CJ
  go_wp2_with fail
  refine hK.out _ _ (⟨gq.out _ Ma,OL.out _ (hb5.trans (hb6.mono hb5.size))⟩) (fun hS=> ?_)
  clear hK K
  try simp only[Act.put,List.setIfInBounds_toArray,List.set_cons_zero,List.set_cons_succ]
  refine gV (S':=fun w'=>((w'.cell? ⟨p,3,none⟩=some (ptr y)∧Below w2.heap.size w2 w')∧(convert 39 9 (.slice a4 n4 c4)).run Tryz.prog w'= .ok (.string (strOf sv)) w')∧(convert 39 9 (.slice a6 nv c6)).run Tryz.prog w'= .ok (.string (strOf sv)) w') (fun _ h=>h.1) _ _ _ _ ?_
  have LD:=And.intro hS (fQ (c:=c6) UO.out)
  clear hS
  have hS:=LD
  clear LD
  refine bH 12 (hS:=hS) (h:= ?_)
  refine bH 13 (hS:=hS) (h:= ?_)
  refine bH 14 (hS:=hS) (h:= ?_)
  refine bH 15 (hS:=hS) (h:= ?_)
  refine bH 16 (hS:=hS) (h:= ?_)
  refine rT 17 (h:=fun K hK=> ?_)
  go_simp
  (with_reducible refine(qK (HW2.out.grow Ma) HG.out HNK.out).mono ?_)
  rintro e w7 ⟨rfl,zC⟩
  have tV:Below w2.heap.size w2 w7:=Ma.trans (zC.mono Ma.size)
  have HC6:Hid (∀u,Below w6.heap.size w6 u→(convert 39 9 (.slice a6 nv c6)).run Tryz.prog u= .ok (.string (strOf sv)) u):=fun u hb=>fQ (c:=c6) (UO.out.below hb (Nat.le_refl _))
  go_wp2_with fail
  refine hK.out _ _ (⟨⟨gq.out _ tV,OL.out _ ((hb5.trans (hb6.mono hb5.size)).trans (zC.mono (Nat.le_trans hb5.size hb6.size)))⟩,HC6.out _ zC⟩) (fun hS=> ?_)
  clear hK K
  try simp only[Act.put,List.setIfInBounds_toArray,List.set_cons_zero,List.set_cons_succ]
  refine bH 18 (hS:=hS) (h:= ?_)
  refine bH 19 (hS:=hS) (h:= ?_)
  refine rT 20 (h:=fun K hK=> ?_)
  go_simp
  (with_reducible refine(mo _).mono ?_)
  rintro e w8 ⟨rfl,uD⟩
  have zX:Below w2.heap.size w2 w8:=tV.trans (uD.mono tV.size)
  go_wp2_with fail
  refine hK.out _ _ (⟨⟨gq.out _ zX,OL.out _ ((hb5.trans (hb6.mono hb5.size)).trans ((zC.trans (uD.mono zC.size)).mono (Nat.le_trans hb5.size hb6.size)))⟩,HC6.out _ (zC.trans (uD.mono zC.size))⟩) (fun hS=> ?_)
  clear hK K
  try simp only[Act.put,List.setIfInBounds_toArray,List.set_cons_zero,List.set_cons_succ]
  refine bH 21 (hS:=hS) (h:= ?_)
  refine bH 22 (hS:=hS) (h:= ?_)
  refine wpAnyH_done (by kernel_rfl) ?_ _
  refine NoPanic.normal ?_
  clear hS
  have uw:=Lib.hid (HB2.out.trans (zX.mono HB2.out.size))
  clear hB4 CV Ma tV zX hb4 hb5 hb6 zC uD hr4
  go_wp2_with fail
  go_ret
  exact⟨rfl,HW.out.marks.below.trans (uw.out.mono HW.out.marks.below.size)⟩
end Go.Proofs.YtohpcppeajijnaaGreat.snapPlays
