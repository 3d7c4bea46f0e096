/- SnapBack: the walk. -/
import Derived.Test.YtjnhnlabpccgjaaGreatM23
import Derived.Test.YtjnhnlabpccgjaaGreatM36
import Derived.Test.YtjnhnlabpccgjaaGreatM41
import Derived.Test.YtjnhnlabpccgjaaGreatM22
import Derived.Test.YtjnhnlabpccgjaaGreatM35
namespace Go.Proofs.YtjnhnlabpccgjaaGreat.snapBack
open Go.ChangeShapes Go.WideShapes Go.ChangeAt Go.RowKit
set_option linter.unusedVariables false
set_option linter.unusedSimpArgs false
structure jV (A:jc):Prop where
 good:rP A
 okay:∀x∈A.l,ig x.t
theorem jV.new:jV kN:=⟨rP.new,fun x hx=>by cases hx⟩
theorem jV.take {A:jc} (h:jV A) {T:aA} (hT:ig T):jV (dI A T).2:=by
 refine⟨h.good.take T,fun x hx=> ?_⟩
 unfold dI at hx
 split at hx
 ·exact h.okay x hx
 ·rcases List.mem_append.1 (show x∈A.l++[_]from hx)with hx|hx
  ·exact h.okay x hx
  ·rw[List.mem_singleton.1 hx];exact hT.bf
theorem jV.forget {A A':jc} {id now er:Int} (h:jV A) (hf:jJ A id now er A'):jV A':=by
 rcases hf with⟨_,rfl,_⟩|⟨k,x,hx,_,_,hf⟩
 ·exact h
 ·rcases hf with⟨_,_,rfl⟩|⟨_,_,rfl⟩
  ·exact h
  ·have hs:∀y∈(EO A k).l,y∈A.l:=fun y hy=>by
    rcases List.mem_append.1 (show y∈A.l.take k++A.l.drop (k+1)from hy)with hy|hy
    ·exact List.mem_of_mem_take hy
    ·exact List.mem_of_mem_drop hy
   have hsub:(A.l.take k++A.l.drop (k+1)).Sublist A.l:=by
    conv=>rhs;rw[←List.take_append_drop k A.l]
    refine List.Sublist.append (List.Sublist.refl _) ?_
    rw[←List.drop_drop]
    exact List.drop_sublist _ _
   exact⟨⟨h.good.next,h.good.last,fun y hy=>h.good.each y (hs y hy),h.good.up.sublist hsub⟩,fun y hy=>h.okay y (hs y hy)⟩
theorem jV.ask {q:wD} {T:aA} {A A':jc} (h:jV A) (hT:ig T) (hd:P8 q T A A'):jV A'∧A'.next≤A.next+1:=by
 rcases hd with⟨_,rfl⟩|⟨_,er,hf⟩|⟨_,rfl⟩
 ·refine⟨h.take hT,?_⟩
  unfold dI
  split
  ·show A.next≤A.next+1;omega
  ·exact Int.le_refl _
 ·exact⟨h.forget hf,by rw[hf.next.1];omega⟩
 ·exact⟨h,by omega⟩
theorem jV.fine {A:jc} (h:jV A) (h8:Gb A) (hn:A.next≤1000000000):jU A:=
 ⟨h.good,⟨h8.len,h8.last,⟨h8.next,hn⟩,fun x hx=>⟨⟨by have:=(h.good.each x hx).1.1;omega,by have:=(h.good.each x hx).1.2;omega⟩,by rw[(h.good.each x hx).2.1];omega⟩⟩,h.okay⟩
def Held (W:World) (p s t x y k:Nat) (w:World):Prop:=∃o A T,jC W o w p s t x y A T A T∧jV A∧A.next≤k+1
theorem oO {l:List dX} (k:Nat):((l.take k).flatMap gJ).length≤(l.flatMap gJ).length:=by
 conv=>rhs;rw[←List.take_append_drop k l,List.flatMap_append,List.length_append]
 omega
theorem CB (S:jc):(S.l.flatMap gJ).length≤(eD S).length:=by
 unfold eD
 rw[List.length_append]
 omega
set_option maxRecDepth 100000 in
set_option maxHeartbeats 64000000 in
theorem walk {H:Type} {enc:TypeId×Value→H} (W:World) (base:Nat) (v0:Value) (d0:DataW H) (p0:List MemPlace) (o0:Value.okWide Tryz.prog W .any base 22 v0) (h0:DataW.Trod enc Tryz.prog W 0 (fun _=>true) true 22 v0 d0 p0) (l0:∀x∈p0,x.block<W.heap.size) (v1:Value) (d1:DataW H) (p1:List MemPlace) (o1:Value.okWide Tryz.prog W .any base 23 v1) (h1:DataW.Trod enc Tryz.prog W 0 (fun _=>true) true 23 v1 d1 p1) (l1:∀x∈p1,x.block<W.heap.size) (a2:Int) (w2:(Lit.int .i64 a2).wf=true) (a3:Int) (w3:(Lit.int .u8 a3).wf=true) (a4:Bool) (hsz:(DataW.weightsEach Tryz.prog [22,23,3,5,4] ([d0,d1, .lit (.int .i64 a2), .lit (.int .u8 a3), .lit (.bool a4)]:List (DataW H))).all (· ≤reachBytes)=true):
  Calls Tryz.prog 3 #[v0,v1, .int .i64 a2, .int .u8 a3, .bool a4] W (Fine W):=by
 obtain⟨a,len,cap,rfl,hlc,hA⟩:∃a len cap,v0= .slice a len cap∧len≤cap∧Uz W a len:=by
  obtain⟨a0,len,cap,rfl⟩:=okWide_slice Tryz.underlying22 o0
  obtain⟨fuel,hf⟩:=h0
  refine Fx hf l0 fun n hn=> ?_
  rw[List.all_eq_true]at hsz
  exact of_decide_eq_true (hsz n (nM (j:=0) rfl rfl n hn))
 obtain⟨ba,bn,bc,bs,rfl,hbc,hR0⟩:∃a len cap bs,v1= .slice a len cap∧len≤cap∧ah (Old W) W a len ((bs:List UInt8).map bv):=by
  obtain⟨a0,len,cap,rfl⟩:=okWide_slice Tryz.underlying23 o1
  obtain⟨fuel,hf⟩:=h1
  exact xk hf l1
 have hlm:=hA.1
 unfold maxLen at hlm
 have HA:=Lib.hid hA
 have Vv:=Lib.hid hR0
 have HW2:=Lib.hid w2
 clear o0 h0 l0 o1 h1 l1 hsz hlc hA hR0 w2 w3
 go_enter Tryz.func3,Tryz.ntmps3
 go_wp2_with fail
 (with_reducible refine(L8 W).mono ?_)
 rintro e w1 ⟨p,s,t,x,y,o1,rfl,hS1⟩
 have HST:Hid (Held W p s t x y 0 w1):=⟨o1,kN,ni,hS1,jV.new,by simp[kN]⟩
 clear hS1
 go_upto_block 0 with(fail)
 go_cut [12]from 24 to 39 (fun i wx=>∃k,k≤30∧Held W p s t x y k wx)
 case first=>
  go_wp2_with fail
  go_loopw [12] (fun i wr=>∃k:Nat,i= .int .i64 k∧k≤30∧Held W p s t x y k wr) (fun i _=>30-(intOf i).toNat)
  case atStart=>exact⟨0,rfl,by omega,HST.out⟩
  case round=>
   obtain⟨k,rfl,Xo,o,A,T,hW,hG,hnk⟩:=hrel
   have HW:=Lib.hid hW
   have HG:=Lib.hid hG
   obtain⟨nx,hnx⟩:∃nx,nx=A.next:=⟨_,rfl⟩
   rw[←hnx]at hnk
   have EH:=Lib.hid hnx
   clear hW hG hnx
   by_cases hlt:k<len
   ·have hd1:decide (k<len)=true:=by simpa using hlt
    by_cases h50:k<30
    ·obtain⟨g,off,rfl,hgw,hAk⟩:=HA.out.2 (by omega)
     obtain⟨q,qa,qn,qc,hx⟩:=hAk k hlt
     have hbW:=HW.out.marks.below
     obtain⟨d0,d1,d2,d3,d4⟩:=hx.cells
     have c0:=(hbW.cell (p:=⟨g,off+k*5,none⟩) hgw).trans d0
     have c1:=(hbW.cell (p:=⟨g,off+k*5+1,none⟩) hgw).trans d1
     have c2:=(hbW.cell (p:=⟨g,off+k*5+2,none⟩) hgw).trans d2
     have c3:=(hbW.cell (p:=⟨g,off+k*5+3,none⟩) hgw).trans d3
     have c4:=(hbW.cell (p:=⟨g,off+k*5+4,none⟩) hgw).trans d4
     have hbr:ah (fun b=>b<W.heap.size) wr qa qn (q.b.map bv):=hx.row.below hbW (Nat.le_refl _)
     have i0:(0:Int)≤(k:Int):=by omega
     have i1:(k:Int)<(len:Int):=by omega
     have i2:(k:Int)<30:=by omega
     have hd2:decide ((k:Int)<30)=true:=by simpa using i2
     have HDO:=Lib.hid (P9 q qa qn qc HW.out (by rw[←EH.out];omega) (by rw[←EH.out];omega) hx.wp hx.wi hx.wk hx.wu hbr hx.cap hx.reach)
     unfold rO at HDO
     clear hx hAk hbW d0 d1 d2 d3 d4 hbr
     go_wp2_with fail
     (with_reducible refine HDO.out.mono ?_)
     rintro e w2 ⟨bb,A2,B2,rfl,hab,hA2,_,o2,hs2,hW2⟩
     obtain⟨rfl,rfl⟩:=hab rfl
     obtain⟨hG2,n2⟩:=HG.out.ask HW.out.QM hA2
     have HH2:Hid (Held W p s t x y (k+1) w2):=⟨o2,A2,_,hW2,hG2,by rw[←EH.out]at n2;omega⟩
     clear hab hA2 hs2 hW2 hG2 n2 c0 c1 c2 c3 c4
     go_wp2_with fail
     go_roundw
     case rel=>exact⟨k+1,by go_num,by omega,HH2.out⟩
     case measure=>simp[intOf];omega
    ·have hd2:decide ((k:Int)<30)=false:=by simp;omega
     have iX:Hid (Held W p s t x y k wr):=⟨o,A,T,HW.out,HG.out,by rw[←EH.out];exact hnk⟩
     go_wp2_with fail
     go_meet
     exact⟨k,Xo,iX.out⟩
   ·have hd1:decide (k<len)=false:=by simpa using hlt
    have iX:Hid (Held W p s t x y k wr):=⟨o,A,T,HW.out,HG.out,by rw[←EH.out];exact hnk⟩
    go_wp2_with fail
    go_meet
    exact⟨k,Xo,iX.out⟩
 case rest=>
  obtain⟨k,Xo,o,A,T,hW,hG,hnk⟩:=hcut
  obtain⟨w1,rfl⟩:∃w1:World,w1=wc:=⟨_,rfl⟩
  have hfi:=hG.fine hW.PY (by omega)
  obtain⟨q0,q1,q2,q3⟩:=hW.cells
  have htk:∀k,((A.l.take k).flatMap gJ).length≤50000000:=by
   obtain⟨v,la,lc,vals,h1,h2,h3,h4,h5,h6,h7,h8⟩:=hW.sn.at_
   exact Bl h6 (fun x hx=>(hfi.ok.each x hx).2) hfi.ok.few
  have hsl:(eD A).length≤51000000:=by
   have h9:=htk A.l.length
   rw[List.take_length]at h9
   have:=hfi.ok.last
   unfold eD
   simp only[List.length_append,bO,kL]
   omega
  have QH:=Lib.hid (Dt (K:=eH) (fun T hT=>⟨hT.w,fun k x hx=>by have:=hT.few hx;omega⟩) hW.sn hW.marks hfi.ok.w (fun k=>by have:=htk k;omega))
  have hMb:=hW.marks.below
  have HW:=Lib.hid hW
  have HFI:=Lib.hid hfi
  have HMB:=Lib.hid hMb
  obtain⟨sv,hsv⟩:∃sv,sv=eD A:=⟨_,rfl⟩
  rw[←hsv]at QH hsl
  have h2l:2≤sv.length:=by rw[hsv];unfold eD;rw[List.length_append,List.length_append,List.length_append,bO];omega
  have EJ:=Lib.hid hsv
  clear hW hG hnk hfi htk hsv hMb
  go_wp2_with fail
  (with_reducible refine QH.out.mono ?_)
  rintro e w2 ⟨xa,xc,rfl,hown,hb2⟩
  obtain⟨g,cur,rfl,hg1,hg2,hcur,hrow,hlxc⟩:=Qx hown (by omega)
  have HB2:=Lib.hid hb2
  have Xp:=Lib.hid hcur
  have lS:=Lib.hid hrow
  have Xq:=Lib.hid (HW.out.marks.grow hb2)
  have HSN2:=Lib.hid (HW.out.sn.grow HW.out.marks hb2)
  have G5:=Lib.hid (xD Xq.out (some ⟨g,0,none⟩) sv.length xc sv hrow (by omega))
  have h8:=HFI.out.ok.few
  have MR:Hid (∀u,Below w2.heap.size w2 u→Calls Tryz.prog 10 #[ptr s] u (pR u (allM A))):=fun u hb=>yu (HSN2.out.grow Xq.out hb) (by omega)
  have hbx:=(hb2.block p HW.out.low).trans HW.out.box
  have hpw:p<w2.heap.size:=Nat.lt_of_lt_of_le HW.out.low hb2.size
  obtain⟨L,hL⟩:∃L,L=sv.length:=⟨_,rfl⟩
  have za:=Lib.hid hL
  rw[←hL]at hrow hlxc hsl h2l G5⊢
  have Cz:=Lib.hid hrow
  have QK:=Lib.hid hbx
  clear hown hb2 hcur hL q0 q1 q2 q3 QH lS hrow hbx
  go_wp2_with fail
  (with_reducible refine G5.out.mono ?_)
  intro e w3 hld
  rcases hld with⟨u,S,o3,i3,rfl,hse,Qy,huq,hb3,X9,hsn3,_⟩|⟨rfl,hno,_⟩
  rotate_left
  ·exact(hno A EJ.out HFI.out).elim
  obtain rfl:A=S:=huq A EJ.out HFI.out
  have tF:=Lib.hid X9
  have HU3:=Lib.hid hsn3
  have Xr:=Lib.hid hb3
  clear hse huq hb3 X9 hsn3 G5
  have hss:∀k,((A.l.take k).flatMap gJ).length≤85000000:=fun k=>by
   have h1:=oO (l:=A.l) k
   have h2:=CB A
   have h3:=EJ.out
   have h4:=za.out
   rw[←h3,←h4]at h2
   omega
  have Sz:Hid (∀v,Below w3.heap.size w3 v→Calls Tryz.prog 7 #[ptr u] v (eO v sv)):=fun v hb=>by
   rw[EJ.out]
   exact Dt (K:=KW) (fun T hT=>hT) (HU3.out.grow tF.out hb) (tF.out.grow hb) Qy hss
  have HAU:Hid (∀v,Below w3.heap.size w3 v→Calls Tryz.prog 10 #[ptr u] v (pR v (allM A))):=fun v hb=>yu (HU3.out.grow tF.out hb) (by omega)
  have xL:Hid (∀v,Below w3.heap.size w3 v→v.cell? ⟨p,0,none⟩=some (ptr s)∧ah (fun x=>x=g) v (some ⟨g,0,none⟩) L (sv.map bv)∧Below w2.heap.size w2 v):=fun v hb=>by
   have hb':=Xr.out.trans (hb.mono Xr.out.size)
   have h1:=(hb'.block p hpw).trans QK.out
   exact⟨by simp[World.cell?,h1],Cz.out.below hb' (Nat.le_refl _),hb'⟩
  clear hss Qy tF HU3
  go_wp2_with fail
  refine Ue ((fun w'=>w'.cell? ⟨p,0,none⟩=some (ptr s)∧(convert 23 9 (.slice (some ⟨g,0,none⟩) L xc)).run Tryz.prog w'= .ok (.string (strOf sv)) w')) ?_ fun hS=> ?_
  ·exact⟨(xL.out _ (Below.refl _ _).drew).1,fK (c:=xc) (xL.out _ (Below.refl _ _).drew).2.1⟩
  refine fA 0 hS ?_
  refine fA 1 hS ?_
  refine fA 2 hS ?_
  refine fA 3 hS ?_
  refine fA 4 hS ?_
  refine fA 5 hS ?_
  refine fA 6 hS ?_
  refine fA 7 hS ?_
  refine fA 10 hS ?_
  refine fA 11 hS ?_
  refine zi 8 fun K hK=> ?_
  go_simp
  (with_reducible refine(Sz.out _ (Below.refl _ _).drew).mono ?_)
  rintro e w4 ⟨aq4,c4,rfl,kQ,hb4⟩
  have hB4:Below w3.heap.size w3 w4:=(Below.refl w3.heap.size w3).drew.trans hb4
  have HR4:=Lib.hid (eT kQ)
  rw[←za.out]at HR4⊢
  clear kQ
  go_wp2_with fail
  refine zl hK (⟨(xL.out _ hB4).1,fK (c:=xc) (xL.out _ hB4).2.1⟩) fun hS=> ?_
  clear hK K
  refine rC (S':=fun w'=>(w'.cell? ⟨p,0,none⟩=some (ptr s)∧(convert 23 9 (.slice (some ⟨g,0,none⟩) L xc)).run Tryz.prog w'= .ok (.string (strOf sv)) w')∧(convert 23 9 (.slice aq4 L c4)).run Tryz.prog w'= .ok (.string (strOf sv)) w') (fun _ h=>h.1) _ _ _ _ ?_
  have hSx1:=And.intro hS (fK (c:=c4) HR4.out)
  clear hS
  have hS:=hSx1
  clear hSx1
  refine fA 9 hS ?_
  refine fA 12 hS ?_
  refine fA 13 hS ?_
  refine fA 14 hS ?_
  refine fA 15 hS ?_
  refine fA 17 hS ?_
  refine fA 18 hS ?_
  refine fA 19 hS ?_
  refine fA 20 hS ?_
  refine zi 16 fun K hK=> ?_
  go_simp
  (with_reducible refine(HAU.out _ hB4).mono ?_)
  rintro e w5 ⟨a5,c5,rfl,hc5,YK,hb5⟩
  have RI:Below w3.heap.size w3 w5:=hB4.trans (hb5.mono hB4.size)
  have EK:=Lib.hid YK
  have JX:Hid (∀v,Below w4.heap.size w4 v→(convert 23 9 (.slice aq4 L c4)).run Tryz.prog v= .ok (.string (strOf sv)) v):=fun v hb=>fK (c:=c4) (HR4.out.below hb (Nat.le_refl _))
  clear YK
  go_wp2_with fail
  refine zl hK (⟨⟨(xL.out _ RI).1,fK (c:=xc) (xL.out _ RI).2.1⟩,JX.out _ hb5⟩) fun hS=> ?_
  clear hK K
  refine zi 21 fun K hK=> ?_
  go_simp
  (with_reducible refine(MR.out _ (xL.out _ RI).2.2).mono ?_)
  rintro e w6 ⟨a6,c6,rfl,hc6,hr6,hb6⟩
  have hB6:Below w3.heap.size w3 w6:=RI.trans (hb6.mono RI.size)
  have WO:=Lib.hid hr6
  have XH:=Lib.hid (KX a5 a6 (allM A).length c5 c6 (allM A) w6 (EK.out.below hb6 (Nat.le_refl _)) WO.out)
  clear hr6
  go_wp2_with fail
  refine zl hK (⟨⟨(xL.out _ hB6).1,fK (c:=xc) (xL.out _ hB6).2.1⟩,JX.out _ (hb5.trans (hb6.mono hb5.size))⟩) fun hS=> ?_
  clear hK K
  refine zi 22 fun K hK=> ?_
  go_simp
  (with_reducible refine XH.out.mono ?_)
  rintro e w7 ⟨rfl,q7,rfl⟩
  have QI:Below w6.heap.size w6 (w6.drewN q7):=bdq (Below.refl _ _) q7
  have AJ:Below w3.heap.size w3 (w6.drewN q7):=hB6.trans (QI.mono hB6.size)
  go_wp2_with fail
  refine zl hK (⟨⟨(xL.out _ AJ).1,fK (c:=xc) (xL.out _ AJ).2.1⟩,JX.out _ ((hb5.trans (hb6.mono hb5.size)).trans (QI.mono (Nat.le_trans hb5.size hb6.size)))⟩) fun hS=> ?_
  clear hK K
  refine fA 23 hS ?_
  refine fA 24 hS ?_
  refine Ud ?_
  clear hS
  obtain⟨w7,hw7⟩:∃w7,w7=w6.drewN q7:=⟨_,rfl⟩
  rw[←hw7]at AJ⊢
  have MX:=Lib.hid (xL.out _ AJ)
  have hcg:=(MX.out.2.2.block g (by have:=(Array.getElem?_eq_some_iff.1 Xp.out).1;exact this)).trans Xp.out
  have HCG:=Lib.hid hcg
  have wS:Hid (Below w1.heap.size w1 w7):=HB2.out.trans (MX.out.2.2.mono HB2.out.size)
  have xC:=Lib.hid MX.out.2.1
  have hg7:g<w7.heap.size:=(Array.getElem?_eq_some_iff.1 hcg).1
  clear hw7 hb4 hb5 hb6 QI hB4 RI hB6 AJ hcg HR4 EK WO JX XH xL HAU MR Sz QK Xr HSN2 Xq Xp Cz MX hc5 hc6
  have hkb:=Ad a2 0 ((L:Int)-1) (by omega)
  have HWI:=Lib.hid (fun u=>Ae a2 0 ((L:Int)-1) u HW2.out (by omega) (by omega) (by omega))
  obtain⟨ki,hki⟩:∃ki,ki=kT a2 0 ((L:Int)-1):=⟨_,rfl⟩
  rw[←hki]at hkb HWI
  obtain⟨k,rfl⟩:∃k:Nat,ki=k:=⟨ki.toNat,by omega⟩
  have hkL:k<L:=by omega
  have hks:k<sv.length:=by have:=za.out;omega
  have ewl:IntKind.i64.wrap ((L:Int)-1)=(L:Int)-1:=IntWalk.i64_in _ (by omega)
  obtain⟨b0,hb0⟩:∃b0,sv[k]? =some b0:=⟨_,List.getElem?_eq_getElem hks⟩
  have hc0:w7.cell? ⟨g,k,none⟩=some (.int .u8 (b0.toNat:Int)):=by
   obtain⟨b',off',e1,_,_,hc⟩:=xC.out.at_ (by omega)
   cases e1
   have h9:=hc k hkL
   rw[Nat.zero_add]at h9
   rw[h9,List.getElem?_map,hb0]
   rfl
  have hfz:w7.frozen? ⟨g,k,none⟩=false:=ah.frozen HCG.out rfl
  obtain⟨z,hz⟩:=xor8 (b0.toNat:Int) a3
  have J3:Hid (ah (fun x=>x=g) (w7.setCell ⟨g,k,none⟩ (.int .u8 (bits .xor .u8 (b0.toNat:Int) a3))) (some ⟨g,0,none⟩) L ((sv.set k z).map bv)):=by
   have h9:=xC.out.fq hkL (.int .u8 (bits .xor .u8 (b0.toNat:Int) a3))
   rw[Nat.zero_add]at h9
   rw[List.map_set]
   have e9:bv z= .int .u8 (bits .xor .u8 (b0.toNat:Int) a3):=by rw[hz]
   rw[e9]
   exact h9
  have vK:Hid (Below w1.heap.size w1 (w7.setCell ⟨g,k,none⟩ (.int .u8 (bits .xor .u8 (b0.toNat:Int) a3)))):=wS.out.setCell hg1 _
  have hkc:k≤xc:=by omega
  have i0:(0:Int)≤(k:Int):=by omega
  have i1:(k:Int)<(L:Int):=by omega
  clear hki hkb hb0 hz hks xC
  go_wp2_with fail
  (with_reducible refine(HWI.out _).mono ?_)
  rintro e _ ⟨rfl,rfl⟩
  go_upto_if 89 with(fail)
  obtain⟨w8,hw8⟩:∃w8,w8=w7.setCell ⟨g,k,none⟩ (.int .u8 (bits .xor .u8 (b0.toNat:Int) a3)):=⟨_,rfl⟩
  rw[←hw8]at J3 vK⊢
  have RQ:g<w8.heap.size:=by rw[hw8,size_set];exact hg7
  clear hw8 hc0 hfz HCG wS
  go_cut [13] (fun xv wx=>∃n y,xv= .slice (some ⟨g,0,none⟩) n xc∧n≤L∧ah (fun x=>x=g) w8 (some ⟨g,0,none⟩) n ((y:List UInt8).map bv)∧w8=wx)
  case first=>
   cases a4
   ·go_wp2_with fail
    go_meet
    exact⟨L,_,rfl,Nat.le_refl _,J3.out,rfl⟩
   ·go_wp2_with fail
    go_meet
    refine⟨k,(sv.set k z).take k,rfl,by omega,?_,rfl⟩
    have h:=J3.out.take k
    rw[Nat.min_eq_right (by omega),←List.map_take]at h
    exact h
  case rest=>
   obtain⟨n,y,rfl,hnL,hrx,rfl⟩:=hcut
   have HRX:=Lib.hid hrx
   have hnc:n≤xc:=by omega
   have HB1:=Lib.hid HW.out.marks.below
   clear hrx J3
   have Xt:Hid (∀u:World,Calls Tryz.prog 12 #[.slice ba bn bc, .int .i64 100] u fun e w'=>e= .returned (.slice ba (min bn 100) bc)∧u=w'):=fun u=>JE ba bn bc 100 hbc (by omega) Vv.out.small u
   obtain⟨m1,hm1⟩:∃m,m=min bn 100:=⟨_,rfl⟩
   have Fe:Hid (∀u,Below w1.heap.size w1 u→ah (Old W) u ba m1 ((bs.take 100).map bv)):=fun u hb=>by
    have h:=Vv.out.below (HB1.out.trans (hb.mono HB1.out.size)) (Nat.le_refl _)
    have h1:=h.take 100
    rw[←hm1,←List.map_take]at h1
    exact h1
   rw[←hm1]at Xt
   have hm1b:m1≤100∧m1≤bc:=by omega
   clear hm1
   go_wp2_with fail
   (with_reducible refine(Xt.out _).mono ?_)
   rintro e _ ⟨rfl,rfl⟩
   go_wp2_with fail
   obtain⟨w9,QO⟩:∃w9,w9=w8.alloc (.cells #[.slice (some ⟨g,0,none⟩) n xc, .slice ba m1 bc] 23):=⟨_,rfl⟩
   have yg:Below w8.heap.size w8 w9:=by rw[QO];exact wall w8 _
   have zu:w8.heap.size<w9.heap.size:=by rw[QO];simp
   have AB:=Lib.hid (vK.out.trans (yg.mono vK.out.size))
   have yO:Hid (∀j,j<2→∃v,w9.cell? ⟨w8.heap.size,j,none⟩=some v∧TF w9 v):=fun j hj=>by
    have hcc:w9.cell? ⟨w8.heap.size,j,none⟩=(#[Value.slice (some ⟨g,0,none⟩) n xc, .slice ba m1 bc]:Array Value)[j]? :=by
     rw[QO]
     simp only[World.cell?,(MapKept.heap_alloc w8 _).1]
     first|rfl|simp
    match j,hj with
    |0,_=>exact⟨_,by rw[hcc];rfl,_,n,xc,y,rfl,hnc,by omega,(HRX.out.below yg (Nat.le_refl _)).mono fun b hb=>by subst hb;omega⟩
    |1,_=>exact⟨_,by rw[hcc];rfl,ba,m1,bc,bs.take 100,rfl,hm1b.2,by omega,(Fe.out _ AB.out).mono fun b hb=>by have:=HB1.out.size;have:=AB.out.size;omega⟩
   have HMK9:=Lib.hid (HW.out.marks.grow AB.out)
   rw[←QO]
   clear QO yg HRX Xt Fe Vv HW HFI HB2
   go_loopw [98] (fun iv wr=>∃j:Nat,iv= .int .i64 j∧j≤2∧Below w9.heap.size w9 wr) (fun iv _=>2-(intOf iv).toNat)
   case atStart=>exact⟨0,rfl,by omega,Below.refl _ _⟩
   case round=>
    obtain⟨j,rfl,hj,hB⟩:=hrel
    have xK:=Lib.hid hB
    have ZQ:=hB.size
    clear hB
    by_cases hlt:j<2
    ·have hd1:decide ((j:Int)<2)=true:=by simp;omega
     obtain⟨v,hcv,an,nn,cc,yy,rfl,hnc',hn9,hry⟩:=yO.out j hlt
     have c0:wr.cell? ⟨w8.heap.size,j,none⟩=some (.slice an nn cc):=(xK.out.cell (p:=⟨w8.heap.size,j,none⟩) zu).trans hcv
     have TG:=hry.below xK.out (Nat.le_refl _)
     have j0:(0:Int)≤(j:Int):=by omega
     have j1:(j:Int)<2:=by omega
     have hyl:yy.length=nn:=by have:=TG.length;simpa using this
     have HRY:=Lib.hid TG
     have G5:=Lib.hid (xD (HMK9.out.grow xK.out) an nn cc yy TG (by omega))
     obtain⟨wo,rfl⟩:∃wo:World,wo=wr:=⟨_,rfl⟩
     have HJ:=Lib.hid hlt
     have HYL:=Lib.hid hyl
     clear hcv hry TG hlt hj hyl
     go_wp2_with fail
     (with_reducible refine G5.out.mono ?_)
     clear G5 c0
     intro e wa hld
     rcases hld with⟨u2,S2,o2,i2,rfl,hse,Qy,_,hba,hMa,hsna,_⟩|⟨rfl,_,hba⟩
     ·have hss:∀k,((S2.l.take k).flatMap gJ).length≤85000000:=fun k=>by
       have h1:=oO (l:=S2.l) k
       have h2:=CB S2
       have h4:=HYL.out
       rw[←hse]at h2
       omega
      have Sz:Hid (∀v,Below wa.heap.size wa v→Calls Tryz.prog 7 #[ptr u2] v (eO v yy)):=fun v hb=>by
       rw[hse]
       exact Dt (K:=KW) (fun T hT=>hT) (hsna.grow hMa hb) (hMa.grow hb) Qy hss
      have tH:=Lib.hid hba
      clear hse Qy hba hMa hsna hss
      go_wp2_with fail
      refine Ue ((fun w'=>(convert 23 9 (.slice an nn cc)).run Tryz.prog w'= .ok (.string (strOf yy)) w')) ?_ fun hS=> ?_
      ·exact fK (c:=cc) (HRY.out.below (tH.out.trans ((Below.refl _ _).drew.mono tH.out.size)) (Nat.le_refl _))
      refine fA 0 hS ?_
      refine fA 1 hS ?_
      refine fA 2 hS ?_
      refine fA 3 hS ?_
      refine fA 4 hS ?_
      refine fA 5 hS ?_
      refine fA 6 hS ?_
      refine fA 7 hS ?_
      refine fA 8 hS ?_
      refine UD 9 hS ?_
      refine UD 10 hS ?_
      refine fA 11 hS ?_
      refine fA 12 hS ?_
      refine fA 13 hS ?_
      refine fA 14 hS ?_
      refine fA 15 hS ?_
      refine fA 16 hS ?_
      refine fA 17 hS ?_
      refine fA 20 hS ?_
      refine fA 21 hS ?_
      refine zi 18 fun K hK=> ?_
      go_simp
      (with_reducible refine(Sz.out _ (Below.refl _ _).drew).mono ?_)
      rintro e wb ⟨ab,cb,rfl,UR,hbb⟩
      have Uw:Below wo.heap.size wo wb:=tH.out.trans (((Below.refl wa.heap.size wa).drew.trans hbb).mono tH.out.size)
      have Fe:=Lib.hid (eT UR)
      have AP:=Lib.hid Uw
      rw[HYL.out]at Fe⊢
      clear UR hbb Uw Sz
      go_wp2_with fail
      refine zl hK (fK (c:=cc) (HRY.out.below AP.out (Nat.le_refl _))) fun hS=> ?_
      clear hK K
      refine rC (S':=fun w'=>(convert 23 9 (.slice an nn cc)).run Tryz.prog w'= .ok (.string (strOf yy)) w'∧(convert 23 9 (.slice ab nn cb)).run Tryz.prog w'= .ok (.string (strOf yy)) w') (fun _ h=>h.1) _ _ _ _ ?_
      have hSx2:=And.intro hS (fK (c:=cb) Fe.out)
      clear hS
      have hS:=hSx2
      clear hSx2
      refine fA 19 hS ?_
      refine fA 22 hS ?_
      refine fA 23 hS ?_
      refine fA 24 hS ?_
      refine Ud ?_
      clear hS
      go_wp2_with fail
      go_roundw
      case rel=>exact⟨j+1,by go_num,by have:=HJ.out;omega,xK.out.trans (AP.out.mono xK.out.size)⟩
      case measure=>have:=HJ.out;simp[intOf];omega
     ·have tH:=Lib.hid hba
      clear hba
      go_wp2_with fail
      refine Ue ((fun w'=>(convert 23 9 (.slice an nn cc)).run Tryz.prog w'= .ok (.string (strOf yy)) w')) ?_ fun hS=> ?_
      ·exact fK (c:=cc) (HRY.out.below (tH.out.trans ((Below.refl _ _).drew.mono tH.out.size)) (Nat.le_refl _))
      refine fA 0 hS ?_
      refine fA 1 hS ?_
      refine fA 2 hS ?_
      refine fA 3 hS ?_
      refine fA 4 hS ?_
      refine fA 5 hS ?_
      refine fA 6 hS ?_
      refine fA 7 hS ?_
      refine fA 8 hS ?_
      refine fA 9 hS ?_
      refine fA 10 hS ?_
      refine fA 11 hS ?_
      refine fA 12 hS ?_
      refine fA 13 hS ?_
      refine fA 14 hS ?_
      refine fA 15 hS ?_
      refine fA 16 hS ?_
      refine UD 17 hS ?_
      refine UD 18 hS ?_
      refine UD 19 hS ?_
      refine UD 20 hS ?_
      refine UD 21 hS ?_
      refine UD 22 hS ?_
      refine fA 23 hS ?_
      refine fA 24 hS ?_
      refine Ud ?_
      clear hS
      have AP:Hid (Below wo.heap.size wo wa.drew):=tH.out.trans ((Below.refl _ _).drew.mono tH.out.size)
      go_wp2_with fail
      go_roundw
      case rel=>exact⟨j+1,by go_num,by have:=HJ.out;omega,xK.out.trans (AP.out.mono xK.out.size)⟩
      case measure=>have:=HJ.out;simp[intOf];omega
    ·have hd1:decide ((j:Int)<2)=false:=by simp;omega
     have Xu:=Lib.hid (AB.out.trans (xK.out.mono AB.out.size))
     clear hlt hj xK
     go_wp2_with fail
     (with_reducible refine(ER _).mono ?_)
     rintro e w16 ⟨rfl,hb16⟩
     have HB16:=Lib.hid (Xu.out.trans (hb16.mono Xu.out.size))
     clear hb16 Xu
     go_wp2_with fail
     go_ret
     exact⟨rfl,HB1.out.trans (HB16.out.mono HB1.out.size)⟩
end Go.Proofs.YtjnhnlabpccgjaaGreat.snapBack
