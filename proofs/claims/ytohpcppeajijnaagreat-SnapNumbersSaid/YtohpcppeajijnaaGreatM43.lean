/- permafrostref13: Save. Arguments opened: lists of permafrostlaw13.Ask. permafrostlaw13: the law's own: snapshots and a tree, and the reference's. What bears no mark stays as it is. -/
import Derived.Test.YtohpcppeajijnaaGreatM38
import Derived.Test.YtohpcppeajijnaaGreatM41
import Derived.Test.YtohpcppeajijnaaGreatM42
import Derived.Test.YtohpcppeajijnaaGreatM27
import Derived.Test.YtohpcppeajijnaaGreatM28
import Derived.Test.YtohpcppeajijnaaGreatM25
import Derived.Test.YtohpcppeajijnaaGreatM20
import Derived.Test.YtohpcppeajijnaaGreatM35
namespace Go.Proofs.YtohpcppeajijnaaGreat
open Go.ChangeShapes Go.WideShapes Go.ChangeAt Go.RowKit
set_option linter.unusedVariables false
set_option linter.unusedSimpArgs false
theorem yP {o:Mark} {w:World}:∀{vs:List Value} {l:List dQ},bT o w vs l→(∀x∈l,x.hash.length≤64)→(l.flatMap oh).length≤6000100*l.length
 |_,[],_,_=>by simp
 |_,x::r,⟨v1,v2,h1,h2,h3⟩,hh=>by
  obtain⟨a,c,q,e1,e2,e3,e4,e5⟩:=h2
  have k1:=Bw e5 (hh x (by simp))
  have k2:=yP h3 fun y hy=>hh y (by simp[hy])
  rw[List.flatMap_cons,List.length_append,List.length_cons]
  omega
theorem zS {W w:World} {o:Mark} {j r:Nat} {T:aI} (h:gM o j w r T) (hT:dR T):Calls Tryz.prog 32 #[ptr r] w (dS w (fq T)):=by
 obtain⟨F,hF,-,-⟩:=h
 exact yL w hF hT
def Ri (S:iC) (k:Nat):List UInt8:=dU S.next 8++mZ S.last++dU S.l.length 1++(S.l.take k).flatMap oh
section
variable {W w:World} {o:Mark} {i s:Nat} {S:iC}
set_option maxRecDepth 100000 in
set_option maxHeartbeats 8000000 in
theorem BA (hS:fM o i w s S) (hM:Marks W o w) (hv:Rf S):Calls Tryz.prog 107 #[ptr s] w (dS w (nQ S)):=by
 obtain⟨la,lc,a,c,vals,h1,h2,h3,h4,h5,h6,h7,h8⟩:=hS.at_
 have AB:=hv.few
 have hlast:=hv.last
 have hnx:=hv.next
 have hlen:=yP h6 fun x hx=>(hv.each x hx).2
 have HV:=Lib.hid hv.each
 have uR:=Lib.hid h6
 obtain⟨n,hn⟩:∃n,n=S.l.length:=⟨_,rfl⟩
 obtain⟨m,hm⟩:∃m,m=S.last.length:=⟨_,rfl⟩
 obtain⟨nx,qy⟩:∃nx,nx=S.next:=⟨_,rfl⟩
 rw[←hn,←hm,←qy]at h1
 rw[←hn]at h4 h5 AB hlen
 rw[←hm]at h8 hlast
 rw[←qy]at hnx
 have HN:=Lib.hid hn
 have L8:=Lib.hid hm
 have qx:=Lib.hid qy
 have gZ:=Lib.hid h5
 have M4:=Lib.hid h8
 have uI:Hid (∀w',Below w.heap.size w w'→w'.cell? ⟨s,0,none⟩=some (.int .i64 nx)∧w'.cell? ⟨s,1,none⟩=some (.slice la m lc)∧w'.cell? ⟨s,2,none⟩=some (.slice a n c)):=fun w' hb=>by
  have hbb:=(hb.block s h3).trans h1
  refine⟨?_,?_,?_⟩<;>simp[World.cell?,hbb]
 have Y5:0≤nx:=hnx.1
 have hnx1:nx≤1000000000:=hnx.2
 have ewn:IntKind.u64.wrap nx=nx:=by simp[IntKind.wrap,IntKind.bits,IntKind.signed];omega
 obtain⟨B1,hB1⟩:∃B1,B1=dU nx 8:=⟨_,rfl⟩
 have hl1:B1.length=8:=by rw[hB1,bJ]
 have wN:=Lib.hid hB1
 have AY:Hid (∀u:World,Calls Tryz.prog 141 #[.slice none 0 0, .int .u64 nx] u (dS u B1)):=fun u=>by
  have h9:=nO (S:=fun _=>True) none 0 0 [] nx u (ak.nil _ _ _) (by omega) Y5 (by omega)
  rw[List.nil_append,←hB1]at h9
  exact h9
 have UZ:=Lib.hid hl1
 clear hS hM h1 h2 h5 h6 h7 h8 hn hm qy hv hnx hB1 hl1
 go_enter Tryz.func107,Tryz.ntmps107
 go_wp2_with fail
 refine wp_region_noPanic ?_
 refine aH (last:=17) (S:=(fun w'=>w'.cell? ⟨s,0,none⟩=some (.int .i64 nx)∧w'.cell? ⟨s,1,none⟩=some (.slice la m lc)∧w'.cell? ⟨s,2,none⟩=some (.slice a n c))) (by kernel_rfl) ?_ (fun hS=> ?_)
 ·exact uI.out _ (Below.refl _ _).drew
 refine aC 0 (hS:=hS) (h:= ?_)
 refine aC 1 (hS:=hS) (h:= ?_)
 refine aC 2 (hS:=hS) (h:= ?_)
 refine aC 3 (hS:=hS) (h:= ?_)
 refine aC 4 (hS:=hS) (h:= ?_)
 refine aC 6 (hS:=hS) (h:= ?_)
 refine aC 7 (hS:=hS) (h:= ?_)
 refine aC 8 (hS:=hS) (h:= ?_)
 refine aC 9 (hS:=hS) (h:= ?_)
 refine aC 11 (hS:=hS) (h:= ?_)
 refine aC 12 (hS:=hS) (h:= ?_)
 refine aC 13 (hS:=hS) (h:= ?_)
 refine aC 14 (hS:=hS) (h:= ?_)
 refine aC 15 (hS:=hS) (h:= ?_)
 refine dh 5 (h:=fun K hK=> ?_)
 go_simp
 (with_reducible refine(AY.out _).mono ?_)
 rintro e w1 ⟨a1,c1,rfl,hown1,hb1⟩
 have mg:=Lib.hid hown1
 have HB1:=Lib.hid ((Below.refl w.heap.size w).drew.trans hb1)
 clear hown1 hb1
 go_wp2_with fail
 refine hK.out _ _ (fun _=>uI.out _ HB1.out) (fun hS=> ?_)
 replace hS:=hS (by decide)
 clear hK K
 try simp only[Act.put,List.setIfInBounds_toArray,List.set_cons_zero,List.set_cons_succ]
 refine dh 10 (h:=fun K hK=> ?_)
 go_simp
 (with_reducible refine(j_ a1 _ c1 B1 la m lc S.last _ (bR mg.out) (M4.out.below HB1.out (Nat.le_refl _)) (by have:=UZ.out;omega) (by omega)).mono ?_)
 rintro e w2 ⟨a2,c2,rfl,hown2,hb2⟩
 obtain⟨B2,hB2⟩:∃B2,B2=B1++(dU m 2++S.last):=⟨_,rfl⟩
 rw[←hB2]at hown2⊢
 have hl2:B2.length≤80:=by
  rw[hB2]
  simp only[List.length_append,bJ]
  have:=UZ.out
  have:=L8.out
  omega
 have HE2:=Lib.hid hB2
 have xq:=Lib.hid hown2
 have HB2:=Lib.hid (HB1.out.trans (hb2.mono HB1.out.size))
 clear hown2 hb2 hB2
 go_wp2_with fail
 refine hK.out _ _ (fun _=>uI.out _ HB2.out) (fun hS=> ?_)
 replace hS:=hS (by decide)
 clear hK K
 try simp only[Act.put,List.setIfInBounds_toArray,List.set_cons_zero,List.set_cons_succ]
 refine dh 16 (h:=fun K hK=> ?_)
 go_simp
 (with_reducible refine(nN a2 _ c2 B2 n _ (bR xq.out) (by omega) (by omega) (by omega)).mono ?_)
 rintro e w3 ⟨a3,c3,rfl,hown3,hb3⟩
 obtain⟨B3,hB3⟩:∃B3,B3=B2++dU n 1:=⟨_,rfl⟩
 rw[←hB3]at hown3⊢
 have HE3:Hid (B3=Ri S 0):=by
  show B3=_
  unfold Ri mZ
  rw[hB3,HE2.out,wN.out,qx.out,L8.out,HN.out]
  simp
 have AQ:=Lib.hid (qH hown3 HB2.out.size)
 have HB3:=Lib.hid (HB2.out.trans (hb3.mono HB2.out.size))
 clear hown3 hb3 hB3 hl2
 go_wp2_with fail
 refine hK.out _ _ (fun _=>uI.out _ HB3.out) (fun hS=> ?_)
 replace hS:=hS (by decide)
 clear hK K
 try simp only[Act.put,List.setIfInBounds_toArray,List.set_cons_zero,List.set_cons_succ]
 refine dh 17 (h:=fun K hK=> ?_)
 go_simp
 refine hK.out _ _ (fun h=>absurd rfl h) (fun hS=> ?_)
 clear hS hK K
 try simp only[Act.put,List.setIfInBounds_toArray,List.set_cons_zero,List.set_cons_succ]
 refine aG (by kernel_rfl) ?_ _
 refine NoPanic.normal ?_
 go_wp2_with fail
 go_loopw [3,4] (fun v iv wr=>∃(k:Nat) (X:List UInt8) (a':Option Addr) (c':Nat),iv= .int .i64 k∧k≤n∧X=Ri S k∧v= .slice a' X.length c'∧wr.ownsRow w.heap.size 5 1 v X.length (X.map bv)∧Below w.heap.size w wr) (fun _ iv _=>n-(intOf iv).toNat)
 case atStart=>exact⟨0,B3,a3,c3,rfl,Nat.zero_le _,HE3.out,rfl,AQ.out,HB3.out⟩
 case round=>
  obtain⟨k,X,a4,c4,rfl,hk,hX,rfl,hown,hb⟩:=hrel
  have HX:=Lib.hid hX
  have HO:=Lib.hid hown
  have HB:=Lib.hid hb
  have YH:X.length≤50000000:=by
   rw[hX]
   unfold Ri
   have h9:((S.l.take k).flatMap oh).length≤(S.l.flatMap oh).length:=by
    conv=>rhs;rw[←List.take_append_drop k S.l,List.flatMap_append,List.length_append]
    omega
   have:=L8.out
   simp only[List.length_append,bJ,jV]
   omega
  obtain⟨q0,q1,q2⟩:=uI.out wr hb
  clear hX hown
  by_cases hlt:k<n
  ·have hd:decide (k<n)=true:=by simpa using hlt
   obtain⟨x,hx⟩:∃x,S.l[k]? =some x:=⟨S.l[k]'(by rw[←HN.out];exact hlt),List.getElem?_eq_getElem _⟩
   obtain⟨g,off,rfl,hgw,_,hcell⟩:=gZ.out.at_ (by omega)
   obtain⟨ha,hcp,q,e0,e1,e2,e3,e4,e5,e6⟩:=uR.out.at_ hx
   have hxm:=HV.out x (List.mem_of_getElem? hx)
   obtain⟨id,hid⟩:∃id,id=x.id:=⟨_,rfl⟩
   obtain⟨hl,Ls⟩:∃hl,hl=x.hash.length:=⟨_,rfl⟩
   rw[←hid]at e0
   rw[←Ls]at e1 e3 e4
   have Y6:0≤id:=by rw[hid];exact hxm.1.1
   have hid1:id≤1000000000:=by rw[hid];exact hxm.1.2
   have hh64:hl≤64:=by rw[Ls];exact hxm.2
   have Tv:Hid (∀w',Below w.heap.size w w'→w'.cell? ⟨s,2,none⟩=some (.slice (some ⟨g,off,none⟩) n c)∧w'.cell? ⟨g,off+k*3,none⟩=some (.int .i64 id)∧w'.cell? ⟨g,off+k*3+1,none⟩=some (.slice ha hl hcp)):=fun w' hb'=>
    ⟨(uI.out w' hb').2.2,(hb'.cell (p:=⟨g,off+k*3,none⟩) hgw.2).trans ((hcell (k*3) (by omega)).trans e0),(hb'.cell (p:=⟨g,off+k*3+1,none⟩) hgw.2).trans ((hcell (k*3+1) (by omega)).trans e1)⟩
   have d2:wr.cell? ⟨g,off+k*3+2,none⟩=some (ptr q):=(hb.cell (p:=⟨g,off+k*3+2,none⟩) hgw.2).trans ((hcell (k*3+2) (by omega)).trans e2)
   have HHR:Hid (ak (Free o w) w ha hl (x.hash.map bv)):=e4
   obtain⟨sv,hsv⟩:∃sv,sv=fq x.t:=⟨_,rfl⟩
   have hsl:=oW e6
   rw[←hsv]at hsl
   have JE:Hid (Calls Tryz.prog 32 #[ptr q] wr (dS wr sv)):=by rw[hsv];exact zS (W:=W) (e5.grow hb) e6
   have CX:=Lib.hid hsv
   have HXX:=Lib.hid hx
   have Oj:=Lib.hid hid
   have Hy:=Lib.hid Ls
   have i0:(0:Int)≤k:=by omega
   have i1:(k:Int)<n:=by omega
   have ewi:IntKind.u64.wrap id=id:=by simp[IntKind.wrap,IntKind.bits,IntKind.signed];omega
   obtain⟨i8,DF⟩:∃i,Tryz.prog.info? 5=some i∧i.zero=some (.int .u8 0)∧i.size=1∧i.bytes=1:=info_parts (by kernel_rfl)
   have HI:=Lib.hid DF
   clear hx hcell e0 e1 e2 e3 e4 e5 e6 hxm hid Ls hsv DF q0 q1 hb
   go_wp2_with fail
   (with_reducible refine JE.out.mono ?_)
   rintro e w5 ⟨a5,c5,rfl,hown5,hb5⟩
   obtain⟨ns,hns⟩:∃ns,ns=sv.length:=⟨_,rfl⟩
   rw[←hns]at hown5 hsl⊢
   have HNS:=Lib.hid hns
   have lX:=Lib.hid (HB.out.trans (hb5.mono HB.out.size))
   have LY:=Lib.hid (own_below HO.out hb5)
   have C8:=Lib.hid ((ak.ku hown5).2)
   have Kg:Hid (∀u,Below w5.heap.size w5 u→ak (fun x=>wr.heap.size≤x∧x<w5.heap.size) u a5 ns (sv.map bv)):=fun u h=>C8.out.below h (Nat.le_refl _)
   clear hown5 hb5 hns q2 d2
   go_wp2_with fail
   refine wp_region_noPanic ?_
   refine aH (last:=20) (S:=(fun w'=>w'.cell? ⟨s,2,none⟩=some (.slice (some ⟨g,off,none⟩) n c)∧w'.cell? ⟨g,off+k*3,none⟩=some (.int .i64 id)∧w'.cell? ⟨g,off+k*3+1,none⟩=some (.slice ha hl hcp))) (by kernel_rfl) ?_ (fun hS=> ?_)
   ·exact Tv.out _ (lX.out.trans ((Below.refl _ _).drew.mono lX.out.size))
   refine aC 0 (hS:=hS) (h:= ?_)
   refine aC 1 (hS:=hS) (h:= ?_)
   refine aC 2 (hS:=hS) (h:= ?_)
   refine aC 3 (hS:=hS) (h:= ?_)
   refine aC 4 (hS:=hS) (h:= ?_)
   refine aC 5 (hS:=hS) (h:= ?_)
   refine aC 6 (hS:=hS) (h:= ?_)
   refine aC 7 (hS:=hS) (h:= ?_)
   refine aC 8 (hS:=hS) (h:= ?_)
   refine aC 9 (hS:=hS) (h:= ?_)
   refine aC 11 (hS:=hS) (h:= ?_)
   refine aC 12 (hS:=hS) (h:= ?_)
   refine aC 13 (hS:=hS) (h:= ?_)
   refine aC 14 (hS:=hS) (h:= ?_)
   refine aC 15 (hS:=hS) (h:= ?_)
   refine aC 16 (hS:=hS) (h:= ?_)
   refine aC 17 (hS:=hS) (h:= ?_)
   refine aC 18 (hS:=hS) (h:= ?_)
   refine dh 10 (h:=fun K hK=> ?_)
   go_simp
   (with_reducible refine(nO a4 _ c4 X id _ ((bR LY.out).below (Below.refl w5.heap.size w5).drew (Nat.le_refl _)) (by omega) Y6 (by omega)).mono ?_)
   rintro e w6 ⟨a6,c6,rfl,hown6,hb6⟩
   obtain⟨B6,Ma⟩:∃B6,B6=X++dU id 8:=⟨_,rfl⟩
   rw[←Ma]at hown6⊢
   have UE:B6.length≤50000008:=by
    rw[Ma]
    simp only[List.length_append,bJ]
    omega
   have Y7:=Lib.hid Ma
   have M0:=Lib.hid hown6
   have NK:=Lib.hid ((Below.refl w5.heap.size w5).drew.trans hb6)
   clear hown6 hb6 Ma
   go_wp2_with fail
   refine hK.out _ _ (fun _=>Tv.out _ (lX.out.trans (NK.out.mono lX.out.size))) (fun hS=> ?_)
   replace hS:=hS (by decide)
   clear hK K
   try simp only[Act.put,List.setIfInBounds_toArray,List.set_cons_zero,List.set_cons_succ]
   refine dh 19 (h:=fun K hK=> ?_)
   go_simp
   (with_reducible refine(j_ a6 _ c6 B6 ha hl hcp x.hash _ (bR M0.out) (HHR.out.below (lX.out.trans (NK.out.mono lX.out.size)) (Nat.le_refl _)) (by omega) (by omega)).mono ?_)
   rintro e w7 ⟨a7,c7,rfl,nV,zC⟩
   obtain⟨B7,tV⟩:∃B7,B7=B6++(dU hl 2++x.hash):=⟨_,rfl⟩
   rw[←tV]at nV⊢
   have VW:B7.length≤50000100:=by
    rw[tV]
    simp only[List.length_append,bJ]
    have:=Hy.out
    omega
   have HE7:=Lib.hid tV
   have Hz:=Lib.hid nV
   have NM:=Lib.hid (NK.out.trans (zC.mono NK.out.size))
   clear nV zC tV UE
   go_wp2_with fail
   refine hK.out _ _ (fun _=>Tv.out _ (lX.out.trans (NM.out.mono lX.out.size))) (fun hS=> ?_)
   replace hS:=hS (by decide)
   clear hK K
   try simp only[Act.put,List.setIfInBounds_toArray,List.set_cons_zero,List.set_cons_succ]
   refine dh 20 (h:=fun K hK=> ?_)
   go_simp
   refine hK.out _ _ (fun h=>absurd rfl h) (fun hS=> ?_)
   clear hS hK K
   try simp only[Act.put,List.setIfInBounds_toArray,List.set_cons_zero,List.set_cons_succ]
   refine aG (by kernel_rfl) ?_ _
   refine NoPanic.normal ?_
   have ews:IntKind.u64.wrap (ns:Int)=(ns:Int):=by simp[IntKind.wrap,IntKind.bits,IntKind.signed];omega
   go_wp2_with fail
   (with_reducible refine(nO a7 _ c7 B7 (ns:Int) _ (bR Hz.out) (by omega) (by omega) (by omega)).mono ?_)
   rintro e w8 ⟨a8,c8,rfl,kJ,uD⟩
   obtain⟨B8,zX⟩:∃B8,B8=B7++dU (ns:Int) 8:=⟨_,rfl⟩
   rw[←zX]at kJ⊢
   have zY:B8.length≤50000110:=by
    rw[zX]
    simp only[List.length_append,bJ]
    omega
   have HE8:=Lib.hid zX
   have U0:=Lib.hid (NM.out.trans (uD.mono NM.out.size))
   have U1:=Lib.hid (lX.out.trans (U0.out.mono lX.out.size))
   have BO:=Lib.hid (qH kJ (show w.heap.size≤w7.heap.size from Nat.le_trans lX.out.size NM.out.size))
   clear kJ uD zX VW
   obtain⟨n8,pE⟩:∃n8,n8=B8.length:=⟨_,rfl⟩
   rw[←pE]at BO zY⊢
   have HN8:=Lib.hid pE
   clear pE
   go_wp2_with (at_builtin;go_loud (refine aO rfl _ _ 39 rfl w.heap.size 5 i8 _ 1 Tryz.underlying39 HI.out.1 HI.out.2.1 HI.out.2.2.1 HI.out.2.2.2 rfl (.slice a8 n8 c8) n8 (B8.map bv) rfl BO.out a5 ns c5 (sv.map bv) rfl (Kg.out _ U0.out) (bU _) (by unfold maxLen;omega) (by omega) U1.out.size ?_;intro A9 c9 w9 iK Jo _ zu;have Jp:=Lib.hid iK;have yg:=Lib.hid (dN Jo (fun b hb=>bC BO.out b hb) U1.out);clear iK Jo zu))
   go_roundw
   case rel=>
    have e9:Ri S (k+1)=B8++sv:=by
     rw[HE8.out,HE7.out,Y7.out,HX.out]
     unfold Ri
     rw[yN HXX.out]
     unfold oh mZ
     rw[Oj.out,Hy.out,HNS.out,CX.out]
     simp only[List.append_assoc]
    have el:(B8++sv).length=n8+ns:=by rw[List.length_append,HN8.out,HNS.out]
    refine⟨k+1,B8++sv,A9,c9,by go_num,by omega,e9.symm,by rw[el],?_,yg.out⟩
    rw[el,List.map_append]
    exact Jp.out
   case measure=>simp[intOf];omega
  ·have hd:decide (k<n)=false:=by simpa using hlt
   have HE:Hid (X=nQ S):=by
    show X=_
    rw[HX.out]
    unfold Ri nQ
    rw[List.take_of_length_le (by rw[←HN.out];omega)]
   clear hlt
   go_wp2_with fail
   go_ret
   have h9:=HE.out
   rw[←h9]
   exact⟨a4,c4,rfl,HO.out,HB.out⟩
end
open Go.Joins Go.ChangeShapes Go.WideShapes Go.ChangeAt Go.RowKit Go.Deep
structure pW where
 kind:Int
 P:Int
 id:Int
 b:List UInt8
 aS:Int
structure Rj (W:World) (g off:Nat) (x:pW) (ba:Option Addr) (bn bc:Nat):Prop where
 cells:W.cell? ⟨g,off,none⟩=some (.int .i64 x.kind)∧W.cell? ⟨g,off+1,none⟩=some (.int .i64 x.P)∧W.cell? ⟨g,off+2,none⟩=some (.int .i64 x.id)∧W.cell? ⟨g,off+3,none⟩=some (.slice ba bn bc)∧W.cell? ⟨g,off+4,none⟩=some (.int .u64 x.aS)
 wk:(Lit.int .i64 x.kind).wf=true
 wp:(Lit.int .i64 x.P).wf=true
 wi:(Lit.int .i64 x.id).wf=true
 wu:0≤x.aS∧x.aS≤18446744073709551615
 cap:bn≤bc
 row:ak (fun b=>b<W.heap.size) W ba bn (x.b.map bv)
 reach:bn≤140737488351232
def Lu (W:World) (a:Option Addr) (len:Nat):Prop:=
 len≤maxLen∧(0<len→∃b off,a=some ⟨b,off,none⟩∧b<W.heap.size∧∀k,k<len→∃x ba bn bc,Rj W b (off+k*5) x ba bn bc)
section
variable {H:Type} {enc:TypeId×Value→H} {W:World}
theorem uh {fuel:Nat} {v:Value} {x:DataW H×List MemPlace} (h:DataW.trod enc Tryz.prog W 0 (fun _=>true) true fuel 53 [v]=some x) (l:∀p∈x.2,p.block<W.heap.size) (hw:∀n∈x.1.weights Tryz.prog 53,n≤reachBytes):
  ∃a len cap,v= .slice a len cap∧len≤cap∧Lu W a len:=by
 rcases rJ Tryz.underlying53 Tryz.underlying57 (by kernel_rfl) (by kernel_rfl) h with⟨hcs,hx⟩|⟨a,len,cap,m,D,Pl,hcs,_,hl,hm,hmm,hx,hi⟩
 ·simp only[List.cons.injEq,and_true]at hcs
  subst hcs
  exact⟨none,0,0,rfl,Nat.le_refl _,by simp,fun h=>by omega⟩
 ·simp only[List.cons.injEq,and_true]at hcs
  subst hcs
  subst hx
  simp only[if_true]at hmm
  subst hmm
  refine⟨some a,len,m,rfl,hl,by omega,fun h0=> ?_⟩
  have hsub:∀(i:Nat) (ys:List (DataW H×List MemPlace)) (j:Nat) (y:DataW H×List MemPlace),i<m→Pl i=ys.flatMap (·.2)→ys[j]? =some y→∀p∈y.2,p.block<W.heap.size:=by
   intro i ys j y hi' hp hy p hpy
   refine l p (List.mem_append_right _ (List.mem_flatMap.2 ⟨i,List.mem_range.2 hi',?_⟩))
   rw[hp]
   exact List.mem_flatMap.2 ⟨y,List.mem_of_getElem? hy,hpy⟩
  obtain⟨b,off,spot⟩:=a
  have hspot:spot=none:=by
   obtain⟨ys,n,_,_,_,hf⟩:=hi 0 (by omega)
   obtain⟨v,y,hc,_⟩:=hf 0 _ rfl
   simpa[Addr.add]using World.cell?_spot hc
  subst hspot
  have hb:b<W.heap.size:=l (.cell b off) (List.mem_append_left _ (MemPlace.mem_row.2 ⟨0,by simp;omega,by simp⟩))
  refine⟨b,off,rfl,hb,fun k hk=> ?_⟩
  obtain⟨ys,n,hD,hP,hyl,hf⟩:=hi k (by omega)
  obtain⟨v0,y0,c0,e0,t0⟩:=hf 0 _ rfl
  obtain⟨v1,y1,c1,e1,t1⟩:=hf 1 _ rfl
  obtain⟨v2,y2,c2,e2,t2⟩:=hf 2 _ rfl
  obtain⟨v3,y3,c3,e3,t3⟩:=hf 3 _ rfl
  obtain⟨v4,y4,c4,e4,t4⟩:=hf 4 _ rfl
  obtain⟨z0,f0,_,g0⟩:=DataW.trod_int Tryz.underlying3 t0
  obtain⟨z1,f1,_,g1⟩:=DataW.trod_int Tryz.underlying3 t1
  obtain⟨z2,f2,_,g2⟩:=DataW.trod_int Tryz.underlying3 t2
  obtain⟨a7,n7,k7,bs,rfl,q7,r7,r7w⟩:=Bf t3 (hsub k ys 3 y3 (by omega) hP e3) (fun n hn=>hw n (zH Tryz.underlying53 (d:=D k) (List.mem_map.2 ⟨k,List.mem_range.2 hk,rfl⟩) (by
   rw[hD]
   exact zI Tryz.underlying57 (j:=3) rfl (d:=y3.1) (by rw[List.getElem?_map,e3];rfl) hn)))
  obtain⟨z4,f4,_,g4⟩:=DataW.trod_int Tryz.underlying43 t4
  simp only[List.cons.injEq,and_true]at f0 f1 f2 f4
  subst f0 f1 f2 f4
  rw[add_plain]at c0 c1 c2 c3 c4
  refine⟨⟨z0,z1,z2,bs,z4⟩,a7,n7,k7,⟨⟨c0,?_,?_,?_,?_⟩,g0,g1,g2,yJ g4,q7,r7,r7w⟩⟩
  ·rw[Nat.add_assoc];exact c1
  ·rw[Nat.add_assoc];exact c2
  ·rw[Nat.add_assoc];exact c3
  ·rw[Nat.add_assoc];exact c4
end
structure DJ (S:iC):Prop where
 len:S.l.length≤8
 last:S.last.length≤64
 next:0≤S.next
theorem DJ.new:DJ gP:=⟨by simp[gP],by simp[gP],by simp[gP]⟩
theorem DJ.take {S:iC} (h:DJ S) (T:aI):DJ (bW S T).2:=by
 by_cases hf:S.l.length<8
 ·obtain⟨x,S',e1,e2,e3,e4,e5,e6,e7,e8⟩:=lF (T:=T) hf
  have:=h.next
  rw[e1]
  exact⟨by show S'.l.length≤8;rw[e2,List.length_append];simp;omega,by show S'.last.length≤64;rw[e8];omega,by show 0≤S'.next;rw[e5];omega⟩
 ·have e1:bW S T=((0,4),S):=by unfold bW;rw[if_pos (by omega)]
  rw[e1]
  exact h
theorem DJ.forget {S S':iC} {id now er:Int} (h:DJ S) (hf:iq S id now er S'):DJ S':=by
 obtain⟨e1,e2,e3⟩:=hf.next
 exact⟨Nat.le_trans e3 h.len,by rw[e2];exact h.last,by rw[e1];exact h.next⟩
def I4 (k:Nat):Prop:=1≤k∧k≤4
theorem I4.qI:¬I4 0:=fun h=>by have:=h.1;omega
structure gY (W:World) (o:Mark) (w:World) (p s t x y:Nat) (A:iC) (T:aI) (B:iC) (U:aI):Prop where
 box:w.heap[p]? =some (.cells #[ptr s,ptr t,ptr x,ptr y] 62 (0,0))
 own:o p=5
 low:p<w.heap.size
 marks:Marks W o w
 sn:dX o 1 w s A
 tr:eU o 2 w t T
 rs:fM o 3 w x B
 rt:gM o 4 w y U
 NP:mO T
 NQ:mO U
 zT:DJ A
 okB:DJ B
section
variable {W w:World} {o:Mark} {p s t x y:Nat} {A B:iC} {T U:aI}
theorem gY.BD (h:gY W o w p s t x y A T B U):dR T:=h.NP.1
theorem gY.He (h:gY W o w p s t x y A T B U):dR U:=h.NQ.1
theorem gY.cells (h:gY W o w p s t x y A T B U):w.cell? ⟨p,0,none⟩=some (ptr s)∧w.cell? ⟨p,1,none⟩=some (ptr t)∧w.cell? ⟨p,2,none⟩=some (ptr x)∧w.cell? ⟨p,3,none⟩=some (ptr y):=by
 have hb:=h.box
 refine⟨?_,?_,?_,?_⟩<;>simp[World.cell?,hb]
theorem gY.grow (h:gY W o w p s t x y A T B U) {w':World} (hb:Below w.heap.size w w'):gY W o w' p s t x y A T B U:=
 ⟨(hb.block p h.low).trans h.box,h.own,Nat.lt_of_lt_of_le h.low hb.size,h.marks.grow hb,h.sn.grow h.marks hb,h.tr.grow hb,h.rs.grow h.marks hb,h.rt.grow hb,h.NP,h.NQ,h.zT,h.okB⟩
theorem gY.snaps (h:gY W o w p s t x y A T B U) {w':World} {o':Mark} {A':iC} (hs:Step o (fun k=>k=1) w o' w') (hS:dX o' 1 w' s A') (hk:DJ A'):gY W o' w' p s t x y A' T B U:=
 have h0:¬(fun k:Nat=>k=1) 0:=by simp
 ⟨(hs.block h.low (by rw[h.own];simp)).trans h.box,(hs.old p h.low).trans h.own,Nat.lt_of_lt_of_le h.low hs.keep.size,h.marks.step h0 hs,hS,h.tr.step h0 (by simp) hs,h.rs.step h0 (by simp) hs,h.rt.step h0 (by simp) hs,h.NP,h.NQ,hk,h.okB⟩
theorem gY.tree (h:gY W o w p s t x y A T B U) {w':World} {o':Mark} {T':aI} (hs:Step o (fun k=>k=2) w o' w') (hT:eU o' 2 w' t T') (hk:mO T'):gY W o' w' p s t x y A T' B U:=
 have h0:¬(fun k:Nat=>k=2) 0:=by simp
 ⟨(hs.block h.low (by rw[h.own];simp)).trans h.box,(hs.old p h.low).trans h.own,Nat.lt_of_lt_of_le h.low hs.keep.size,h.marks.step h0 hs,h.sn.step h0 (by simp) hs,hT,h.rs.step h0 (by simp) hs,h.rt.step h0 (by simp) hs,hk,h.NQ,h.zT,h.okB⟩
theorem gY.rsn (h:gY W o w p s t x y A T B U) {w':World} {o':Mark} {B':iC} (hs:Step o (fun k=>k=3) w o' w') (hS:fM o' 3 w' x B') (hk:DJ B'):gY W o' w' p s t x y A T B' U:=
 have h0:¬(fun k:Nat=>k=3) 0:=by simp
 ⟨(hs.block h.low (by rw[h.own];simp)).trans h.box,(hs.old p h.low).trans h.own,Nat.lt_of_lt_of_le h.low hs.keep.size,h.marks.step h0 hs,h.sn.step h0 (by simp) hs,h.tr.step h0 (by simp) hs,hS,h.rt.step h0 (by simp) hs,h.NP,h.NQ,h.zT,hk⟩
theorem gY.ref (h:gY W o w p s t x y A T B U) {w':World} {o':Mark} {U':aI} (hs:Step o (fun k=>k=4) w o' w') (hR:gM o' 4 w' y U') (hk:mO U'):gY W o' w' p s t x y A T B U':=
 have h0:¬(fun k:Nat=>k=4) 0:=by simp
 ⟨(hs.block h.low (by rw[h.own];simp)).trans h.box,(hs.old p h.low).trans h.own,Nat.lt_of_lt_of_le h.low hs.keep.size,h.marks.step h0 hs,h.sn.step h0 (by simp) hs,h.tr.step h0 (by simp) hs,h.rs.step h0 (by simp) hs,hR,h.NP,hk,h.zT,h.okB⟩
def pX (W:World) (o:Mark) (w:World) (p s t x y:Nat) (A:iC) (T:aI) (B:iC) (U:aI) (w':World):Prop:=∃o',Step o I4 w o' w'∧gY W o' w' p s t x y A T B U
theorem iT {o o':Mark} {w w':World} {j:Nat} (h:Step o (fun k=>k=j) w o' w') (hj:1≤j∧j≤4):Step o I4 w o' w':=h.mono fun i hi=>by
 have e:i=j:=hi
 exact e▸hj
theorem gY.take (h:gY W o w p s t x y A T B U) (hn:A.next≤1000000000):Calls Tryz.prog 38 #[ptr s,ptr t] w fun e w'=>e= .returned (.tuple #[.int .i64 (bW A T).1.1, .int .i64 (bW A T).1.2])∧pX W o w p s t x y (bW A T).2 T B U w':=by
 refine(oM h.sn h.tr h.marks (by omega) h.BD h.zT.len h.zT.last h.zT.next hn).mono ?_
 rintro e w' ⟨rfl,o',hs,hS⟩
 exact⟨rfl,o',iT hs (by omega),h.snaps hs hS (h.zT.take T)⟩
theorem gY.U2 (h:gY W o w p s t x y A T B U) (hn:B.next≤1000000000):Calls Tryz.prog 99 #[ptr x,ptr y] w fun e w'=>e= .returned (.tuple #[.int .i64 (bW B U).1.1, .int .i64 (bW B U).1.2])∧pX W o w p s t x y A T (bW B U).2 U w':=by
 refine(G8 h.rs h.rt h.marks (by omega) h.He h.okB.len h.okB.last h.okB.next hn).mono ?_
 rintro e w' ⟨rfl,hs,hS⟩
 exact⟨rfl,o,iT hs (by omega),h.rsn hs hS (h.okB.take U)⟩
theorem gY.forget (h:gY W o w p s t x y A T B U) (id now:Int):Calls Tryz.prog 100 #[ptr s, .int .i64 id, .int .u64 now] w fun e w'=>∃er A',e= .returned (.int .i64 er)∧iq A id now er A'∧pX W o w p s t x y A' T B U w':=by
 refine(vX h.sn h.marks (by omega) h.zT.len id now).mono ?_
 rintro e w' ⟨er,S',o',rfl,hf,hs,hS⟩
 exact⟨er,S',rfl,hf,o',iT hs (by omega),h.snaps hs hS (h.zT.forget hf)⟩
theorem gY.NR (h:gY W o w p s t x y A T B U) (id now:Int):Calls Tryz.prog 101 #[ptr x, .int .i64 id, .int .u64 now] w fun e w'=>∃er B',e= .returned (.int .i64 er)∧iq B id now er B'∧pX W o w p s t x y A T B' U w':=by
 refine(Bq h.rs h.marks (by omega) h.okB.len id now).mono ?_
 rintro e w' ⟨er,S',rfl,hf,hs,hS⟩
 exact⟨er,S',rfl,hf,o,iT hs (by omega),h.rsn hs hS (h.okB.forget hf)⟩
theorem gY.make {S:Nat→Prop} (h:gY W o w p s t x y A T B U) (a:Option Addr) (n c:Nat) (ls:List Nm) (kind:Int) (hS:aW S w a n (ls.map strOf)) (hc:n≤c) (pE:n≤1000000):
  Calls Tryz.prog 12 #[ptr t, .slice a n c, .int .i64 kind] w fun e w'=>e= .returned (.tuple #[.int .i64 (dw T ls kind).1.1, .int .i64 (dw T ls kind).1.2])∧pX W o w p s t x y A (dw T ls kind).2 B U w':=by
 refine(Ml h.tr h.marks (by omega) h.BD a n c ls kind hS hc pE).mono ?_
 rintro e w' ⟨rfl,o',hs,hT⟩
 exact⟨rfl,o',iT hs (by omega),h.tree hs hT (h.NP.dw _ _)⟩
theorem gY.OI {S:Nat→Prop} (h:gY W o w p s t x y A T B U) (a:Option Addr) (n c:Nat) (ls:List Nm) (kind:Int) (hS:aW S w a n (ls.map strOf)) (hc:n≤c) (pE:n≤1000000):
  Calls Tryz.prog 13 #[ptr y, .slice a n c, .int .i64 kind] w fun e w'=>e= .returned (.tuple #[.int .i64 (dw U ls kind).1.1, .int .i64 (dw U ls kind).1.2])∧pX W o w p s t x y A T B (dw U ls kind).2 w':=by
 refine(Nf h.rt h.marks h.He a n c ls kind hS hc pE).mono ?_
 rintro e w' ⟨rfl,o',hs,hT⟩
 exact⟨rfl,o',iT hs (by omega),h.ref hs hT (h.NQ.dw _ _)⟩
theorem gY.append {S:Nat→Prop} (h:gY W o w p s t x y A T B U) (id:Int) (a:Option Addr) (l c:Nat) (bs:List UInt8) (hid:(Lit.int .i64 id).wf=true) (hr:ak S w a l (bs.map bv)) (hl:l≤1000000):
  Calls Tryz.prog 20 #[ptr t, .int .i64 id, .slice a l c] w fun e w'=>e= .returned (.int .i64 (bI T id bs).1)∧pX W o w p s t x y A (bI T id bs).2 B U w':=by
 refine(E_ h.tr h.marks (by omega) h.BD id a l c bs hid hr (by omega)).mono ?_
 rintro e w' ⟨rfl,o',hs,hT⟩
 exact⟨rfl,o',iT hs (by omega),h.tree hs hT (h.NP.bI _ _)⟩
theorem gY.NS {S:Nat→Prop} (h:gY W o w p s t x y A T B U) (id:Int) (a:Option Addr) (l c:Nat) (bs:List UInt8) (hr:ak S w a l (bs.map bv)) (hS:∀b,S b→o b=0) (hl:l≤1000000):
  Calls Tryz.prog 22 #[ptr y, .int .i64 id, .slice a l c] w fun e w'=>e= .returned (.int .i64 (bI U id bs).1)∧pX W o w p s t x y A T B (bI U id bs).2 w':=by
 refine(Gj h.rt h.marks (by omega) h.He id a l c bs hr hS hl).mono ?_
 rintro e w' ⟨rfl,o',hs,hT⟩
 exact⟨rfl,o',iT hs (by omega),h.ref hs hT (h.NQ.bI _ _)⟩
theorem gY.U3 (h:gY W o w p s t x y A T B U) (id aS:Int) (hid:(Lit.int .i64 id).wf=true) (ht:0≤aS∧aS≤18446744073709551615):
  Calls Tryz.prog 23 #[ptr t, .int .i64 id, .int .u64 aS] w fun e w'=>e= .returned (.int .i64 (dZ T id aS).1)∧pX W o w p s t x y A (dZ T id aS).2 B U w':=by
 refine(MN h.tr h.marks (by omega) id aS hid ht.1 ht.2).mono ?_
 rintro e w' ⟨rfl,o',hs,hT⟩
 exact⟨rfl,o',iT hs (by omega),h.tree hs hT (h.NP.dZ _ _ ht.1)⟩
theorem gY.U4 (h:gY W o w p s t x y A T B U) (id aS:Int) (ht:0≤aS∧aS≤18446744073709551615):
  Calls Tryz.prog 24 #[ptr y, .int .i64 id, .int .u64 aS] w fun e w'=>e= .returned (.int .i64 (dZ U id aS).1)∧pX W o w p s t x y A T B (dZ U id aS).2 w':=by
 refine(Ng h.rt h.marks h.He id aS ht).mono ?_
 rintro e w' ⟨rfl,o',hs,hT⟩
 exact⟨rfl,o',iT hs (by omega),h.ref hs hT (h.NQ.dZ _ _ ht.1)⟩
theorem gY.unlink {S:Nat→Prop} (h:gY W o w p s t x y A T B U) (a:Option Addr) (n c:Nat) (ls:List Nm) (hS:aW S w a n (ls.map strOf)) (hc:n≤c) (pE:n≤1000000):
  Calls Tryz.prog 18 #[ptr t, .slice a n c] w fun e w'=>e= .returned (.int .i64 (bg T ls).1)∧pX W o w p s t x y A (bg T ls).2 B U w':=by
 refine(FB h.tr h.marks (by omega) h.BD a n c ls hS hc pE).mono ?_
 rintro e w' ⟨rfl,o',hs,hT⟩
 exact⟨rfl,o',iT hs (by omega),h.tree hs hT (h.NP.bg _)⟩
theorem gY.NT {S:Nat→Prop} (h:gY W o w p s t x y A T B U) (a:Option Addr) (n c:Nat) (ls:List Nm) (hS:aW S w a n (ls.map strOf)) (hc:n≤c) (pE:n≤1000000):
  Calls Tryz.prog 19 #[ptr y, .slice a n c] w fun e w'=>e= .returned (.int .i64 (bg U ls).1)∧pX W o w p s t x y A T B (bg U ls).2 w':=by
 refine(Gi h.rt h.marks h.He a n c ls hS hc pE).mono ?_
 rintro e w' ⟨rfl,o',hs,hT⟩
 exact⟨rfl,o',iT hs (by omega),h.ref hs hT (h.NQ.bg _)⟩
set_option maxRecDepth 100000 in
set_option maxHeartbeats 4000000 in
theorem tH (W:World):Calls Tryz.prog 36 #[] W fun e w'=>∃p s t x y o,e= .returned (ptr p)∧gY W o w' p s t x y gP kr gP kr:=by
 have RF:=Lib.hid (show Marks W (fun _=>0) W from⟨fun b hb=>absurd rfl hb,Below.refl _ _⟩)
 go_enter Tryz.func36,Tryz.ntmps36
 go_wp2_with fail
 (with_reducible refine(yu RF.out 1 (by omega)).mono ?_)
 rintro e w1 ⟨s,o1,rfl,hs1,hS1,hb1⟩
 have Ei:=Lib.hid (RF.out.step (by simp) hs1)
 have kR:=Lib.hid hS1
 clear hs1 hS1 hb1
 go_wp2_with fail
 (with_reducible refine(AX W w1 o1 Ei.out 2 (by omega)).mono ?_)
 rintro e w2 ⟨t,o2,rfl,hs2,Am,hb2⟩
 have D8:=Lib.hid (Ei.out.step (by simp) hs2)
 have HS2:=Lib.hid (kR.out.step (by simp) (by simp) hs2)
 have HT2:=Lib.hid Am
 clear hs2 Am hb2
 go_wp2_with fail
 (with_reducible refine(Ns D8.out 3).mono ?_)
 rintro e w3 ⟨x,o3,rfl,hs3,hX3,hb3⟩
 have JA:=Lib.hid (D8.out.step (by simp) hs3)
 have Aj:=Lib.hid (HS2.out.step (by simp) (by simp) hs3)
 have HT3:=Lib.hid (HT2.out.step (by simp) (by simp) hs3)
 have HX3:=Lib.hid hX3
 clear hs3 hX3 hb3
 go_wp2_with fail
 (with_reducible refine(Kt JA.out 4).mono ?_)
 rintro e w4 ⟨y,o4,rfl,hs4,hY4⟩
 have Cc:=Lib.hid (JA.out.step (by simp) hs4)
 have nY:=Lib.hid (Aj.out.step (by simp) (by simp) hs4)
 have BL:=Lib.hid (HT3.out.step (by simp) (by simp) hs4)
 have Vo:=Lib.hid (HX3.out.step (by simp) (by simp) hs4)
 have HY4:=Lib.hid hY4
 clear hs4 hY4
 go_wp2_with fail
 go_ret
 have hb5:=wall w4 (.cells #[ptr s,ptr t,ptr x,ptr y] 62)
 obtain⟨o5,hs5,k1,k2⟩:=jW Cc.out 5 (fun b=>b=w4.heap.size) (w':=w4.alloc (.cells #[ptr s,ptr t,ptr x,ptr y] 62)) (fun b hb=>by subst hb;simp) hb5
 exact⟨w4.heap.size,s,t,x,y,o5,rfl,⟨(MapKept.heap_alloc w4 _).1,k1 _ rfl,by simp,Cc.out.step (by simp) hs5,nY.out.step (by simp) (by simp) hs5,BL.out.step (by simp) (by simp) hs5,Vo.out.step (by simp) (by simp) hs5,HY4.out.step (by simp) (by simp) hs5,mO.new,mO.new,DJ.new,DJ.new⟩⟩
end
theorem Step.same {w w':World} {o o':Mark} {I:Nat→Prop} (h:Step o I w o' w') (hi:¬I 0) {b:Nat} (hb:Free o w b):w'.heap[b]? =w.heap[b]? :=h.block hb.2 (by rw[hb.1];exact hi)
theorem Free.zero {o:Mark} {w:World} {b:Nat} (h:Free o w b):o b=0:=h.1
theorem tJ {w w':World} {o o':Mark} {I:Nat→Prop} {a:Option Addr} {n:Nat} {ss:List ByteArray} (h:aW (Free o w) w a n ss) (hi:¬I 0) (hs:Step o I w o' w'):aW (Free o w) w' a n ss:=
 h.kept hs.keep.size fun b hb hbw=>hs.same hi hb
end Go.Proofs.YtohpcppeajijnaaGreat
