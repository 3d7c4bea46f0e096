/- The reference's Save. The codec's reader, as plain data. package codec: the reader. -/
import Derived.Test.YtjnhnlabpccgjaaGreatM28
import Derived.Test.YtjnhnlabpccgjaaGreatM29
import Derived.Test.YtjnhnlabpccgjaaGreatM22
import Derived.BigQuiet
import Derived.Deep.QuietTactic
import Derived.Test.YtjnhnlabpccgjaaGreatM11
import Derived.WalkLawsBesides
namespace Go.Proofs.YtjnhnlabpccgjaaGreat
open Go.ChangeShapes Go.WideShapes Go.ChangeAt Go.RowKit
set_option linter.unusedVariables false
set_option linter.unusedSimpArgs false
def PN (e:iM):List UInt8:=qp e.2.1++fJ e.2.2 2
def lX (E:List iM) (id:Int) (k:Nat):List UInt8:=((E.take k).filter fun e=>decide (e.1=id)).flatMap PN
def oF (E:List iM) (id:Int) (k:Nat):Nat:=((E.take k).filter fun e=>decide (e.1=id)).length
theorem Nl {E:List iM} {id:Int} {k:Nat} {e:iM} (hx:E[k]? =some e) (he:e.1=id):lX E id (k+1)=lX E id k++qp e.2.1++fJ e.2.2 2∧oF E id (k+1)=oF E id k+1:=by
 obtain⟨hk,h⟩:=List.getElem?_eq_some_iff.1 hx
 unfold lX oF
 rw[List.take_succ_eq_append_getElem hk,List.filter_append,h]
 simp[he,PN]
theorem PO {E:List iM} {id:Int} {k:Nat} {e:iM} (hx:E[k]? =some e) (he:e.1≠id):lX E id (k+1)=lX E id k∧oF E id (k+1)=oF E id k:=by
 obtain⟨hk,h⟩:=List.getElem?_eq_some_iff.1 hx
 unfold lX oF
 rw[List.take_succ_eq_append_getElem hk,List.filter_append,h]
 simp[he]
theorem Nn {T:aF} {id:Int} {x:bA} (hs:aI gH T) (hx:ah id T=some x) {k:Nat} (hk:(aU T).length≤k):lX (aU T) id k=x.names.flatMap EJ∧oF (aU T) id k=x.names.length:=by
 unfold lX oF
 rw[List.take_of_length_le hk,CB hs hx,List.length_map,List.flatMap_map]
 exact⟨rfl,rfl⟩
theorem Ki {E:List iM} (hg:∀e∈E,e.2.1.length≤16) (id:Int) (k:Nat):(lX E id k).length≤20*k∧oF E id k≤k:=by
 have h2:(E.take k).length≤k:=List.length_take_le _ _
 have h3:=List.length_filter_le (fun e:iM=>decide (e.1=id)) (E.take k)
 refine⟨?_,by unfold oF;omega⟩
 have h1:∀L:List iM,(∀e∈L,e.2.1.length≤16)→(L.flatMap PN).length≤20*L.length:=fun L hL=>by
  induction L with
  |nil=>simp
  |cons e r ih=>
   have h4:=hL e (by simp)
   have h5:=ih fun y hy=>hL y (by simp[hy])
   simp only[List.flatMap_cons,List.length_append,List.length_cons,PN,m_,dO]
   omega
 have h6:=h1 ((E.take k).filter fun e=>decide (e.1=id)) fun e he=>hg e (List.mem_of_mem_take (List.mem_filter.1 he).1)
 unfold lX
 omega
def pK (T:aF) (k:Nat):List UInt8:=fJ T.length 2++(T.take k).flatMap fun q=>iT q.1 q.2
theorem Kj {T:aF} {k:Nat} {q:Int×bA} (hx:T[k]? =some q):pK T (k+1)=pK T k++iT q.1 q.2:=by
 obtain⟨hk,h⟩:=List.getElem?_eq_some_iff.1 hx
 unfold pK
 rw[List.take_succ_eq_append_getElem hk,List.flatMap_append,h,List.flatMap_cons,List.flatMap_nil,List.append_nil,List.append_assoc]
theorem Np {T:aF} {k:Nat} (hk:T.length≤k):pK T k=kE T:=by
 unfold pK kE
 rw[List.take_of_length_le hk]
theorem Nq {T:aF} (hT:fB T) (k:Nat):(pK T k).length≤6000000:=by
 have h1:=BA hT (T.take k) (fun q hq=>List.mem_of_mem_take hq)
 have h2:=hT.len
 have h3:(T.take k).length≤T.length:=by rw[List.length_take];omega
 unfold pK
 rw[List.length_append,dO]
 omega
section
variable {F:Nat→Prop} {r:Nat} {T:aF}
set_option maxRecDepth 100000 in
set_option maxHeartbeats 16000000 in
theorem Kk (w:World) (h:gW F w r T) (hT:fB T):Calls Tryz.prog 15 #[ptr r] w (gu w (kE T)):=by
 obtain⟨aN,cN,aD,cD,aE,cE,h1,h2,h3,h4,hN,hD,hE,-⟩:=h.head
 have hrw:=h.low r h.own
 have hlen:=hT.len
 have hef:=gX hT
 have HT:=Lib.hid hT
 have HG:Hid (∀e∈aU T,e.2.1.length≤16):=fun e he=>by
  obtain⟨q,hq,hk,hm⟩:=Cx he
  exact jU ((hT.each _ _ (aL bW hT.sorted hq)).good _ hm)
 have Va:Hid (∀k,T.length≤k→pK T k=kE T):=fun k hk=>Np hk
 have hdl:(T.map fun q=>q.2.b).length=T.length:=List.length_map _
 rw[hdl]at h1 h3
 obtain⟨N,hNe⟩:∃N,N=T.length:=⟨_,rfl⟩
 obtain⟨E,hEe⟩:∃E,E=aU T:=⟨_,rfl⟩
 rw[←hEe]at h1 h4 hE hef HG
 obtain⟨M,hMe⟩:∃M,M=E.length:=⟨_,rfl⟩
 rw[←hNe]at h1 h2 h3 hN hlen
 rw[←hMe]at h1 h4 hE hef
 have iE:=Lib.hid hNe
 have CS:=Lib.hid hMe
 have Ya:=Lib.hid hEe
 have QK:=Lib.hid hN
 have Sw:=Lib.hid hD
 have VZ:=Lib.hid hE
 have HC:Hid (∀w',Below w.heap.size w w'→w'.cell? ⟨r,0,none⟩=some (.slice aN N cN)∧w'.cell? ⟨r,1,none⟩=some (.slice aD N cD)∧w'.cell? ⟨r,2,none⟩=some (.slice aE M cE)):=fun w' hb=>by
  have hh:=(hb.block r hrw).trans h1
  refine⟨?_,?_,?_⟩<;>simp[World.cell?,hh]
 have c0:=(HC.out w (Below.refl _ _)).1
 have VY:Hid (∀w':World,Calls Tryz.prog 52 #[.slice none 0 0, .int .i64 (N:Int)] w' (gu w' (pK T 0))):=fun w'=>by
  have e1:pK T 0=[]++fJ (N:Int) 2:=by unfold pK;rw[hNe];simp
  rw[e1]
  exact iY (S:=fun _=>True) none 0 0 [] (N:Int) w' (aj.nil _ _ _) (by omega) (by omega) (by omega)
 clear h hT h1 hN hD hE hdl hNe hMe hEe
 go_enter Tryz.func15,Tryz.ntmps15
 go_wp2_with fail
 (with_reducible refine(VY.out _).mono ?_)
 rintro e w1 ⟨a1,c1,rfl,hown1,hb1⟩
 have vV:=Lib.hid hown1
 have HB1:=Lib.hid hb1
 clear hown1 hb1 c0
 go_wp2_with fail
 go_loopw [3,4] (fun bvv iv wr=>∃(k:Nat) (a:Option Addr) (c:Nat),k≤N∧iv= .int .i64 k∧bvv= .slice a (pK T k).length c∧wr.ownsRow w.heap.size 5 1 (.slice a (pK T k).length c) (pK T k).length ((pK T k).map bv)∧Below w.heap.size w wr) (fun _ iv _=>N-(intOf iv).toNat)
 case atStart=>exact⟨0,a1,c1,Nat.zero_le _,rfl,rfl,vV.out,HB1.out⟩
 case round=>
  obtain⟨k,a,c,hk,rfl,rfl,hown,hB⟩:=hrel
  have Ii:=hB.size
  have c0:=(HC.out _ hB).1
  by_cases hlt:k<N
  ·have hd1:decide (k<N)=true:=by simpa using hlt
   have hx:T[k]? =some (T[k]'(by have:=iE.out;omega)):=List.getElem?_eq_getElem _
   obtain⟨q,hq⟩:∃q,q=T[k]'(by have:=iE.out;omega):=⟨_,rfl⟩
   rw[←hq]at hx
   have HX:=Lib.hid hx
   have LH:ah q.1 T=some q.2:=aL bW HT.out.sorted (List.mem_of_getElem? hx)
   have hok:=HT.out.each _ _ LH
   obtain⟨id0,id1⟩:=HT.out.ids _ _ LH
   have hsz:=hok.size
   obtain⟨bN,oN,rfl,-,hbN,-,Fg⟩:=QK.out.wide fu iE.out.symm hx (by omega)
   have ZO:Hid (∀w',Below w.heap.size w w'→w'.cell? ⟨bN,oN+k*6,none⟩=some (.int .i64 q.1)∧w'.cell? ⟨bN,oN+k*6+1,none⟩=some (.int .i64 q.2.kind)∧w'.cell? ⟨bN,oN+k*6+2,none⟩=some (.int .i64 q.2.links)∧w'.cell? ⟨bN,oN+k*6+3,none⟩=some (.int .i64 q.2.b.length)∧w'.cell? ⟨bN,oN+k*6+4,none⟩=some (.int .u64 q.2.aO)∧w'.cell? ⟨bN,oN+k*6+5,none⟩=some (.bool q.2.closed)):=fun w' hb=>by
    have hc:=fun j hj=>(hb.cell (p:=⟨bN,oN+k*6+j,none⟩) hbN).trans (Fg j hj)
    exact⟨hc 0 (by omega),hc 1 (by omega),hc 2 (by omega),hc 3 (by omega),hc 4 (by omega),hc 5 (by omega)⟩
   obtain⟨vs,ZP,ZQ⟩:=Sw.out
   obtain⟨aB,cB,hvk,hcap,hrb⟩:=ZQ k q.2.b (by rw[List.getElem?_map,hx];rfl)
   obtain⟨bD,oD,rfl,-,hbD,ZR⟩:=ZP.at_ (by rw[List.length_map,←iE.out];omega)
   have ZT:Hid (∀w',Below w.heap.size w w'→w'.cell? ⟨bD,oD+k,none⟩=some (.slice aB q.2.b.length cB)):=fun w' hb=>
    ((hb.cell (p:=⟨bD,oD+k,none⟩) hbD).trans (ZR k (by rw[List.length_map,←iE.out];omega))).trans hvk
   have Ka:Hid (∀w',Below w.heap.size w w'→aj (Off F r) w' aB q.2.b.length (q.2.b.map bv)):=fun w' hb=>hrb.below hb (Nat.le_refl _)
   have hl0:=Nq HT.out k
   obtain⟨L0,hL0⟩:∃L,L=pK T k:=⟨_,rfl⟩
   rw[←hL0]at hown hl0⊢
   obtain⟨EN,V3⟩:∃L,L=nL q.1 q.2:=⟨_,rfl⟩
   have hle:EN.length=16:=by rw[V3];exact jC _ _
   obtain⟨L1,hL1⟩:∃L,L=L0++qp EN:=⟨_,rfl⟩
   have hl1:L1.length=L0.length+18:=by rw[hL1,List.length_append,m_,hle]
   obtain⟨L2,hL2⟩:∃L,L=L1++qp q.2.b:=⟨_,rfl⟩
   obtain⟨nb,hnb⟩:∃n,n=q.2.b.length:=⟨_,rfl⟩
   rw[←hnb]at hsz ZO ZT Ka
   have hl2:L2.length=L0.length+20+nb:=by rw[hL2,List.length_append,m_,hl1,←hnb];omega
   have Gc:Hid (∀w':World,Calls Tryz.prog 54 #[.agg #[.int .i64 q.1, .int .i64 q.2.kind, .int .i64 q.2.links, .int .i64 nb, .int .u64 q.2.aO, .bool q.2.closed]] w' (gu w' EN)):=fun w'=>by
    rw[V3,hnb]
    exact GD q.1 q.2 hok id0 id1 w'
   have JJ:Hid (∀(B B':Nat) (w':World) (a a':Option Addr) (c c':Nat),w'.ownsRow B 5 1 (.slice a L0.length c) L0.length (L0.map bv)→w'.ownsRow B' 5 1 (.slice a' EN.length c') EN.length (EN.map bv)→Calls Tryz.prog 53 #[.slice a L0.length c, .slice a' EN.length c'] w' (gu w' L1)):=fun B B' w' a a' c c' h h'=>by
    rw[hL1]
    exact qV a _ c L0 a' _ c' EN w' (gq h) (gq h') (by omega) (by omega)
   have RP:Hid (∀(B:Nat) (w':World) (a:Option Addr) (c:Nat),w'.ownsRow B 5 1 (.slice a L1.length c) L1.length (L1.map bv)→Below w.heap.size w w'→Calls Tryz.prog 53 #[.slice a L1.length c, .slice aB nb cB] w' (gu w' L2)):=fun B w' a c h hb=>by
    rw[hL2]
    have h9:=qV a _ c L1 aB nb cB q.2.b w' (gq h) (Ka.out w' hb) (by omega) (by omega)
    rw[hnb]at h9⊢
    exact h9
   have VO:=Lib.hid (Nn HT.out.sorted LH (k:=M) (by rw[CS.out,Ya.out];exact Nat.le_refl _))
   rw[←Ya.out]at VO
   have ZU:=Lib.hid (fun j=>Ki HG.out q.1 j)
   obtain⟨cb,hcb⟩:∃L,L=lX E q.1 M:=⟨_,rfl⟩
   obtain⟨cn,hcn⟩:∃n,n=oF E q.1 M:=⟨_,rfl⟩
   obtain⟨Vb,Yb⟩:=ZU.out M
   rw[←hcb]at Vb
   rw[←hcn]at Yb
   obtain⟨L3,hL3⟩:∃L,L=L2++fJ (cn:Int) 2:=⟨_,rfl⟩
   have hl3:L3.length=L0.length+22+nb:=by rw[hL3,List.length_append,dO,hl2];omega
   have Tp:Hid (∀(B:Nat) (w':World) (a:Option Addr) (c:Nat),w'.ownsRow B 5 1 (.slice a L2.length c) L2.length (L2.map bv)→Calls Tryz.prog 52 #[.slice a L2.length c, .int .i64 (cn:Int)] w' (gu w' L3)):=fun B w' a c h=>by
    rw[hL3]
    exact iY a _ c L2 (cn:Int) w' (gq h) (by omega) (by omega) (by omega)
   have xu:Hid (pK T (k+1)=L3++cb):=by
    show pK T (k+1)=L3++cb
    rw[Kj hx,←hL0,hL3,hL2,hL1,V3,hcb,hcn,VO.out.1,VO.out.2]
    unfold iT
    simp only[List.append_assoc]
   have HO:=Lib.hid hown
   have HB:=Lib.hid hB
   have QC:=Lib.hid hlt
   have HL3:=Lib.hid hl3
   have HL2:=Lib.hid hl2
   have Vd:=Lib.hid hcb
   have V4:=Lib.hid hcn
   have hk0:(0:Int)≤(k:Int):=by omega
   have hk1:(k:Int)<(N:Int):=by omega
   have hl0':=hl0
   have HH:Hid (∀w',Below w.heap.size w w'→w'.cell? ⟨r,0,none⟩=some (.slice (some ⟨bN,oN,none⟩) N cN)∧w'.cell? ⟨r,1,none⟩=some (.slice (some ⟨bD,oD,none⟩) N cD)∧w'.cell? ⟨bN,oN+k*6,none⟩=some (.int .i64 q.1)∧w'.cell? ⟨bN,oN+k*6+1,none⟩=some (.int .i64 q.2.kind)∧w'.cell? ⟨bN,oN+k*6+2,none⟩=some (.int .i64 q.2.links)∧w'.cell? ⟨bN,oN+k*6+3,none⟩=some (.int .i64 nb)∧w'.cell? ⟨bN,oN+k*6+4,none⟩=some (.int .u64 q.2.aO)∧w'.cell? ⟨bN,oN+k*6+5,none⟩=some (.bool q.2.closed)∧w'.cell? ⟨bD,oD+k,none⟩=some (.slice aB nb cB)):=fun w' hb=>by
    obtain⟨y0,y1,-⟩:=HC.out w' hb
    obtain⟨n0,n1,n2,n3,n4,n5⟩:=ZO.out w' hb
    exact⟨y0,y1,n0,n1,n2,n3,n4,n5,ZT.out w' hb⟩
   clear hx hq LH hok ZP ZQ hvk hcap hrb ZR Fg hL0 V3 hle hL1 hl1 hL2 hl2 hnb hcb hcn hL3 hl3 hown hB hlt hl0
   go_wp2_with fail
   refine KQ ((fun w'=>w'.cell? ⟨r,0,none⟩=some (.slice (some ⟨bN,oN,none⟩) N cN)∧w'.cell? ⟨r,1,none⟩=some (.slice (some ⟨bD,oD,none⟩) N cD)∧w'.cell? ⟨bN,oN+k*6,none⟩=some (.int .i64 q.1)∧w'.cell? ⟨bN,oN+k*6+1,none⟩=some (.int .i64 q.2.kind)∧w'.cell? ⟨bN,oN+k*6+2,none⟩=some (.int .i64 q.2.links)∧w'.cell? ⟨bN,oN+k*6+3,none⟩=some (.int .i64 nb)∧w'.cell? ⟨bN,oN+k*6+4,none⟩=some (.int .u64 q.2.aO)∧w'.cell? ⟨bN,oN+k*6+5,none⟩=some (.bool q.2.closed)∧w'.cell? ⟨bD,oD+k,none⟩=some (.slice aB nb cB))) ?_ fun hS=> ?_
   ·exact HH.out _ HB.out.drew
   refine dJ 0 hS ?_
   refine dJ 1 hS ?_
   refine dJ 2 hS ?_
   refine dJ 3 hS ?_
   refine dJ 4 hS ?_
   refine dJ 5 hS ?_
   refine dJ 6 hS ?_
   refine dJ 7 hS ?_
   refine dJ 10 hS ?_
   refine dJ 11 hS ?_
   refine dJ 12 hS ?_
   refine dJ 13 hS ?_
   refine dJ 14 hS ?_
   refine dJ 15 hS ?_
   refine dJ 16 hS ?_
   refine sw 8 fun K hK=> ?_
   go_simp
   (with_reducible refine(Gc.out _).mono ?_)
   rintro e w4 ⟨a4,c4,rfl,Ir,Ng⟩
   have hb4:Below w.heap.size w w4:=HB.out.drew.trans (Ng.mono Ii)
   have Ve:=Lib.hid Ir
   have Sd:=Lib.hid (own_below (w:=wr.drew) (w':=w4) HO.out Ng)
   clear Ir
   go_simp
   refine sD hK (HH.out _ hb4) fun hS=> ?_
   clear hK K
   refine sw 9 fun K hK=> ?_
   go_simp
   (with_reducible refine(JJ.out _ _ _ _ _ _ _ Sd.out Ve.out).mono ?_)
   rintro e w5 ⟨a5,c5,rfl,hown5,Px⟩
   have hb5:Below w.heap.size w w5:=hb4.trans (Px.mono hb4.size)
   have WJ:=Lib.hid hown5
   clear hown5
   go_simp
   refine sD hK (HH.out _ hb5) fun hS=> ?_
   clear hK K
   refine sw 17 fun K hK=> ?_
   go_simp
   (with_reducible refine(RP.out _ _ _ _ WJ.out hb5).mono ?_)
   rintro e w6 ⟨a6,c6,rfl,hown6,Py⟩
   have hb6:Below w.heap.size w w6:=hb5.trans (Py.mono hb5.size)
   have HO6:=Lib.hid (zy hown6 (Nat.zero_le _))
   clear hown6
   go_simp
   refine sD hK (HH.out _ hb6) fun hS=> ?_
   clear hK K
   refine sw 18 fun K hK=> ?_
   go_simp
   refine sD hK (HH.out _ hb6) fun hS=> ?_
   clear hK K
   refine KP ?_
   have rQ:=Lib.hid hb6
   have hs6:=hb6.size
   clear Ng Px Py hb4 hb5 hb6
   go_wp2_with fail
   obtain⟨wo,rfl⟩:∃wo:World,wo=wr:=⟨_,rfl⟩
   go_loopw [5,6,7] (fun nv lv kv wr=>∃(j:Nat) (a:Option Addr) (c:Nat),j≤M∧kv= .int .i64 j∧nv= .int .i64 (oF E q.1 j)∧lv= .slice a (lX E q.1 j).length c∧wr.ownsRow w6.heap.size 5 1 (.slice a (lX E q.1 j).length c) (lX E q.1 j).length ((lX E q.1 j).map bv)∧Below w6.heap.size w6 wr) (fun _ _ kv _=>M-(intOf kv).toNat)
   case atStart=>exact⟨0,none,0,Nat.zero_le _,rfl,rfl,rfl,⟨rfl, .inl ⟨rfl,rfl⟩⟩,Below.refl _ _⟩
   case round=>
    obtain⟨j,a7,c7,hj,rfl,rfl,rfl,EL,Fj⟩:=hrel
    have Yc:=Fj.size
    have hBw:Below w.heap.size w wr:=rQ.out.trans (Fj.mono hs6)
    have y2:=(HC.out _ hBw).2.2
    obtain⟨hel,hen⟩:=ZU.out j
    by_cases hjm:j<M
    ·have hd2:decide (j<M)=true:=by simpa using hjm
     have hx:E[j]? =some (E[j]'(by have:=CS.out;omega)):=List.getElem?_eq_getElem _
     obtain⟨e,he⟩:∃e,e=E[j]'(by have:=CS.out;omega):=⟨_,rfl⟩
     rw[←he]at hx
     have hnm:=HG.out e (List.mem_of_getElem? hx)
     obtain⟨bE,oE,rfl,-,hbE,-,ZV⟩:=VZ.out.wide iw CS.out.symm hx (by omega)
     have Yd:Hid (∀w',Below w.heap.size w w'→w'.cell? ⟨bE,oE+j*3,none⟩=some (.int .i64 e.1)∧w'.cell? ⟨bE,oE+j*3+1,none⟩=some (.string (strOf e.2.1))∧w'.cell? ⟨bE,oE+j*3+2,none⟩=some (.int .i64 e.2.2)):=fun w' hb=>by
      have hc:=fun i hi=>(hb.cell (p:=⟨bE,oE+j*3+i,none⟩) hbE).trans (ZV i hi)
      exact⟨hc 0 (by omega),hc 1 (by omega),hc 2 (by omega)⟩
     have y0:=(HH.out _ hBw).1
     have n0:=(HH.out _ hBw).2.2.1
     have e0:=(Yd.out _ hBw).1
     have V5:=Lib.hid hjm
     have hj0:(0:Int)≤(j:Int):=by omega
     have hj1:(j:Int)<(M:Int):=by omega
     have TJ:=Lib.hid EL
     have vk:=Lib.hid Fj
     have HX:=Lib.hid hx
     clear EL Fj hx he ZV hjm
     by_cases hp:e.1=q.1
     ·have hpp:(e.1==q.1)=true:=by simpa using hp
      obtain⟨hyb,hyn⟩:=Nl HX.out hp
      obtain⟨C0,hC0⟩:∃L,L=lX E q.1 j:=⟨_,rfl⟩
      obtain⟨C1,Vf⟩:∃L,L=C0++qp e.2.1:=⟨_,rfl⟩
      obtain⟨C2,hC2⟩:∃L,L=C1++fJ e.2.2 2:=⟨_,rfl⟩
      rw[←hC0,←Vf,←hC2]at hyb
      rw[←hC0]at hel TJ⊢
      obtain⟨nm,Sy⟩:∃nm,nm=e.2.1:=⟨_,rfl⟩
      rw[←Sy]at hnm Vf
      have hlc1:C1.length≤20*j+18:=by rw[Vf,List.length_append,m_];omega
      obtain⟨QT,PS⟩:∃QT,QT=e.2.2:=⟨_,rfl⟩
      have Qv:0≤QT∧QT≤65535:=by
       have hm:e∈aU T:=by rw[←Ya.out];exact List.mem_of_getElem? HX.out
       obtain⟨x,hx1,hx2⟩:=(jw HT.out.sorted).1 hm
       obtain⟨y,hy⟩:=Option.isSome_iff_exists.1 (HT.out.leads _ x hx1 e.2 hx2).1
       rw[PS]
       exact HT.out.ids _ _ hy
      obtain⟨Ye,hei1⟩:=Qv
      obtain⟨dn,hdn⟩:∃n,n=oF E q.1 j:=⟨_,rfl⟩
      rw[←hdn]at hen hyn⊢
      have HZ2:Hid (∀(B:Nat) (w':World) (a:Option Addr) (c:Nat),w'.ownsRow B 5 1 (.slice a C1.length c) C1.length (C1.map bv)→Calls Tryz.prog 52 #[.slice a C1.length c, .int .i64 QT] w' (gu w' C2)):=fun B w' a c h=>by
       rw[hC2,←PS]
       exact iY a _ c C1 QT w' (gq h) (by omega) Ye (by omega)
      have HZ1:Hid (∀(B:Nat) (w':World) (a:Option Addr) (c:Nat) (a':Option Addr) (c':Nat) (S':Nat→Prop),w'.ownsRow B 5 1 (.slice a C0.length c) C0.length (C0.map bv)→aj S' w' a' nm.length (nm.map bv)→Calls Tryz.prog 53 #[.slice a C0.length c, .slice a' nm.length c'] w' (gu w' C1)):=fun B w' a c a' c' S' h h'=>by
       rw[Vf]
       exact qV a _ c C0 a' _ c' nm w' (gq h) h' (by omega) (by omega)
      have Vg:Hid (∀w',Below w.heap.size w w'→w'.cell? ⟨r,2,none⟩=some (.slice (some ⟨bE,oE,none⟩) M cE)∧w'.cell? ⟨bE,oE+j*3+1,none⟩=some (.string (strOf nm))∧w'.cell? ⟨bE,oE+j*3+2,none⟩=some (.int .i64 QT)):=fun w' hb=>by
       rw[Sy,PS]
       exact⟨(HC.out w' hb).2.2,(Yd.out w' hb).2.1,(Yd.out w' hb).2.2⟩
      have Vh:=Lib.hid hyb
      have Rl:=Lib.hid hyn
      have Oc:=Lib.hid hBw
      clear hp hyb hyn hC0 Vf hC2 Sy PS hdn hBw
      go_wp2_with fail
      go_quiet (fail)
      have Yf:Hid (Below w.heap.size w (wr.drewN nq)):=Oc.out.trans ⟨rfl,rfl,rfl,Nat.le_refl _,fun _ _=>rfl⟩
      have Vi:Hid (Below w6.heap.size w6 (wr.drewN nq)):=vk.out.trans ⟨rfl,rfl,rfl,Nat.le_refl _,fun _ _=>rfl⟩
      have Yg:Hid ((wr.drewN nq).ownsRow w6.heap.size 5 1 (.slice a7 C0.length c7) C0.length (C0.map bv)):=own_below TJ.out ⟨rfl,rfl,rfl,Nat.le_refl _,fun _ _=>rfl⟩
      clear y0 n0 e0 y2 TJ Oc vk Yc
      generalize wr.drewN nq=wq at*
      have hs7:=Vi.out.size
      go_wp2_with fail
      obtain⟨ZL,wc,hrun,hbc,X0,QS,hcells⟩:=EK wq.drew nm (by omega)
      have hrow:aj (fun b=>b=wq.heap.size) wc (some ⟨wq.heap.size,0,none⟩) nm.length (nm.map bv):=hcells
      have J5:=Lib.hid hrow
      have Sz:Below w6.heap.size w6 wc:=Vi.out.drew.trans (hbc.mono hs7)
      have Iw:Below w.heap.size w wc:=Yf.out.drew.trans (hbc.mono Yf.out.size)
      have HOC:Hid (wc.ownsRow w6.heap.size 5 1 (.slice a7 C0.length c7) C0.length (C0.map bv)):=own_below (w:=wq.drew) Yg.out hbc
      clear hcells hrow
      refine KQ ((fun w'=>w'.cell? ⟨r,2,none⟩=some (.slice (some ⟨bE,oE,none⟩) M cE)∧w'.cell? ⟨bE,oE+j*3+1,none⟩=some (.string (strOf nm))∧w'.cell? ⟨bE,oE+j*3+2,none⟩=some (.int .i64 QT))) ?_ fun hS=> ?_
      ·exact Vg.out _ Yf.out.drew
      refine dJ 0 hS ?_
      refine dJ 1 hS ?_
      refine dJ 2 hS ?_
      refine dJ 3 hS ?_
      refine dJ 4 hS ?_
      refine dJ 5 hS ?_
      refine dJ 6 hS ?_
      refine dJ 7 hS ?_
      refine dJ 8 hS ?_
      refine dJ 11 hS ?_
      refine dJ 12 hS ?_
      refine dJ 13 hS ?_
      refine dJ 14 hS ?_
      refine dJ 15 hS ?_
      refine dJ 16 hS ?_
      refine dJ 17 hS ?_
      refine dJ 18 hS ?_
      refine sw 9 fun K hK=> ?_
      go_simp
      refine sD hK (Vg.out _ Iw) fun hS=> ?_
      clear hK K
      refine sw 10 fun K hK=> ?_
      go_simp
      (with_reducible refine(HZ1.out _ _ _ _ _ _ _ HOC.out J5.out).mono ?_)
      rintro e w8 ⟨a8,c8,rfl,BD,SA⟩
      have vv:Below w.heap.size w w8:=Iw.trans (SA.mono Iw.size)
      have PU:Below w6.heap.size w6 w8:=Sz.trans (SA.mono Sz.size)
      have TH:=Lib.hid BD
      clear BD
      go_simp
      refine sD hK (Vg.out _ vv) fun hS=> ?_
      clear hK K
      refine sw 19 fun K hK=> ?_
      go_simp
      (with_reducible refine(HZ2.out _ _ _ _ TH.out).mono ?_)
      rintro e w9 ⟨a9,c9,rfl,EM,SB⟩
      have zw:Below w.heap.size w w9:=vv.trans (SB.mono vv.size)
      have Vj:Below w6.heap.size w6 w9:=PU.trans (SB.mono PU.size)
      have Yh:=Lib.hid (zy EM PU.size)
      clear EM
      go_simp
      refine sD hK (Vg.out _ zw) fun hS=> ?_
      clear hK K
      refine sw 20 fun K hK=> ?_
      go_simp
      refine sD hK (Vg.out _ zw) fun hS=> ?_
      clear hK K
      refine KP ?_
      have Yi:=Lib.hid Vj
      clear SA SB vv PU zw Vj hrun hbc Sz Iw
      go_wp2_with fail
      go_roundw
      case rel=>exact⟨j+1,a9,c9,V5.out,by go_num,by rw[Rl.out];go_num,by rw[Vh.out],by rw[Vh.out];exact Yh.out,Yi.out⟩
      case measure=>have:=V5.out;simp[intOf];omega
     ·have hpp:(e.1==q.1)=false:=by simpa using hp
      obtain⟨hyb,hyn⟩:=PO HX.out hp
      have Vh:=Lib.hid hyb
      have Rl:=Lib.hid hyn
      clear hp hyb hyn hBw
      go_wp2_with fail
      go_quiet (fail)
      go_wp2_with fail
      go_roundw
      case rel=>exact⟨j+1,a7,c7,V5.out,by go_num,by rw[Rl.out],by rw[Vh.out],by rw[Vh.out];exact own_below TJ.out ⟨rfl,rfl,rfl,Nat.le_refl _,fun _ _=>rfl⟩,vk.out.trans ⟨rfl,rfl,rfl,Nat.le_refl _,fun _ _=>rfl⟩⟩
      case measure=>have:=V5.out;simp[intOf];omega
    ·have hd2:decide (j<M)=false:=by simpa using hjm
     obtain rfl:j=M:=by omega
     rw[←Vd.out]at EL⊢
     rw[←V4.out]
     have TJ:=Lib.hid EL
     have Oc:=Lib.hid hBw
     have Yj:=Lib.hid (own_below HO6.out Fj)
     clear EL Fj hBw hjm hel hen
     go_wp2_with fail
     (with_reducible refine(Tp.out _ _ _ _ Yj.out).mono ?_)
     rintro e w8 ⟨a8,c8,rfl,BD,vv⟩
     have SC:Below w.heap.size w w8:=Oc.out.trans (vv.mono Oc.out.size)
     have SE:=Lib.hid ((gq TJ.out).below vv (Nat.le_refl _))
     have TH:=Lib.hid (zy BD Oc.out.size)
     have sZ:=Lib.hid SC
     have ZW:Hid (∀b,(Value.slice a8 L3.length c8).ownBlock=some b→w.heap.size≤b):=fun b hb=>Gw (zy BD Oc.out.size) hb
     obtain⟨i8,hi⟩:∃i,Tryz.prog.info? 5=some i∧i.zero=some (.int .u8 0)∧i.size=1∧i.bytes=1:=info_parts (by kernel_rfl)
     have HI:=Lib.hid hi
     have hl3:=HL3.out
     obtain⟨n3,Uc⟩:∃n,n=L3.length:=⟨_,rfl⟩
     obtain⟨n7,Yk⟩:∃n,n=cb.length:=⟨_,rfl⟩
     rw[←Uc]at hl3 TH ZW⊢
     rw[←Yk]at SE Vb⊢
     have HN3:=Lib.hid Uc
     have HN7:=Lib.hid Yk
     have Ip:=SC.size
     have hl3i:n3≤L0.length+22+nb:=Nat.le_of_eq hl3
     clear BD vv SC hi Uc Yk hl3
     go_wp2_with (at_builtin;go_loud (refine aW rfl _ _ 23 rfl w.heap.size 5 i8 _ 1 Tryz.underlying23 HI.out.1 HI.out.2.1 HI.out.2.2.1 HI.out.2.2.2 rfl _ n3 (L3.map bv) rfl TH.out a7 n7 c7 (cb.map bv) rfl SE.out (fq cb) (by unfold maxLen;omega) (by omega) Ip ?_;intro A9 c9 u9 EM PV _ Yl;have Vk:=Lib.hid (fZ PV ZW.out sZ.out);have Yh:=Lib.hid EM;clear EM PV Yl))
     go_roundw
     case rel=>
      have e8:(pK T (k+1)).length=n3+n7:=by rw[xu.out,List.length_append,HN3.out,HN7.out]
      refine⟨k+1,A9,c9,QC.out,by go_num,by rw[e8],?_,Vk.out⟩
      rw[e8,xu.out,List.map_append]
      exact Yh.out
     case measure=>have:=QC.out;simp only[intOf];omega
  ·have hd1:decide (k<N)=false:=by simpa using hlt
   have HO:=Lib.hid hown
   have HB:=Lib.hid hB
   have hkN:T.length≤k:=by have:=iE.out;omega
   have WR:=Lib.hid (Va.out k hkN)
   clear hown hB hkN
   go_wp2_with fail
   go_ret
   have e1:=WR.out
   rw[←e1]
   exact⟨a,c,rfl,HO.out,HB.out⟩
end
def pO (l:List UInt8):Int:=l.foldl (fun n c=>n*256+(c.toNat:Int)) 0
theorem uX (l:List UInt8) (c:UInt8):pO (l++[c])=pO l*256+(c.toNat:Int):=by unfold pO;rw[List.foldl_append];rfl
theorem Nr:pO []=0:=rfl
theorem BF {α:Type} (l:List α) (k:Nat) (h:l.length=k+1):∃l' c,l=l'++[c]∧l'.length=k:=by
 have hne:l≠[]:=fun e=>by rw[e]at h;cases h
 exact⟨l.dropLast,l.getLast hne,(List.dropLast_concat_getLast hne).symm,by rw[List.length_dropLast];omega⟩
theorem pQ:∀(k:Nat) (l:List UInt8),l.length=k→0≤pO l∧pO l<256^k
 |0,l,h=>by rw[List.eq_nil_of_length_eq_zero h];simp[pO]
 |k+1,l,h=>by
  obtain⟨l',c,rfl,h'⟩:=BF l k h
  obtain⟨h1,h2⟩:=pQ k l' h'
  have hc:(c.toNat:Int)≤255:=by have:=c.toNat_lt;omega
  rw[uX,Int.pow_succ]
  generalize (256:Int)^k=P at*
  omega
theorem zB:∀(k:Nat) (n:Int),0≤n→fJ n (k+1)=fJ (n/256) k++[UInt8.ofNat ((n%256).toNat)]
 |0,n,h0=>by
  show[UInt8.ofNat ((n/2^(8*0)).toNat%256)]=[UInt8.ofNat ((n%256).toNat)]
  congr 2
  simp
  omega
 |k+1,n,h0=>by
  have h:=zB k n h0
  rw[fJ,h]
  show _=(UInt8.ofNat ((n/256/2^(8*k)).toNat%256)::fJ (n/256) k)++_
  rw[List.cons_append]
  congr 4
  rw[Int.ediv_ediv_of_nonneg (by decide),show(2:Int)^(8*(k+1))=256*2^(8*k)by rw[Nat.mul_add,Int.pow_add,Int.mul_comm];rfl]
theorem Iy:∀(k:Nat) (n:Int),0≤n→n<256^k→pO (fJ n k)=n
 |0,n,h0,h1=>by simp only[Int.pow_zero]at h1;simp only[fJ,Nr];omega
 |k+1,n,h0,h1=>by
  rw[zB k n h0,uX,Iy k (n/256) (by omega) (by rw[Int.pow_succ]at h1;generalize (256:Int)^k=P at*;omega)]
  have:(UInt8.ofNat (n%256).toNat).toNat=(n%256).toNat:=by simp;omega
  rw[this];omega
theorem Iz:∀(k:Nat) (l:List UInt8),l.length=k→fJ (pO l) k=l
 |0,l,h=>(List.eq_nil_of_length_eq_zero h).symm
 |k+1,l,h=>by
  obtain⟨l',c,rfl,h'⟩:=BF l k h
  obtain⟨h1,h2⟩:=pQ k l' h'
  have hc:(c.toNat:Int)≤255:=by have:=c.toNat_lt;omega
  rw[uX,zB _ _ (by omega),show(pO l'*256+(c.toNat:Int))/256=pO l' by omega,Iz k l' h',show((pO l'*256+(c.toNat:Int))%256).toNat=c.toNat by omega]
  simp
abbrev Rd:=List UInt8×Int
def jD (s:Rd) (n:Int):List UInt8×Rd:=
 if s.2≠0 then([],s)else if (s.1.length:Int)<n then([],(s.1,10))else if n<1 then([],s)else(s.1.take n.toNat,(s.1.drop n.toNat,0))
def bO (s:Rd) (k:Nat):Int×Rd:=(pO (jD s k).1,(jD s k).2)
def qh (s:Rd):Bool×Rd:=(decide ((bO s 1).1=1),if 1<(bO s 1).1 then((bO s 1).2.1,12)else(bO s 1).2)
def aQ (s:Rd):List UInt8×Rd:=jD (bO s 2).2 (bO s 2).1
def qW (s:Rd):Nat:=if s.2≠0 then 0 else s.1.length
def oH (s:Rd):Int:=if s.2=0∧0<s.1.length then 11 else s.2
theorem BG {s:Rd} (h:s.2≠0) (n:Int):jD s n=([],s):=by unfold jD;rw[if_pos h]
theorem IB {s:Rd} {n:Int} (h0:0≤n) (h:(jD s n).2.2=0):s.2=0∧s.1=(jD s n).1++(jD s n).2.1∧((jD s n).1.length:Int)=n:=by
 by_cases h1:s.2≠0
 ·rw[BG h1]at h;exact absurd h h1
 ·have h1:s.2=0:=Decidable.not_not.1 h1
  unfold jD at h⊢
  rw[if_neg (by simp[h1])]at h⊢
  by_cases h2:(s.1.length:Int)<n
  ·rw[if_pos h2]at h;cases h
  ·rw[if_neg h2]at h⊢
   by_cases h3:n<1
   ·rw[if_pos h3]
    exact⟨h1,rfl,by simp;omega⟩
   ·rw[if_neg h3]
    refine⟨h1,(List.take_append_drop _ _).symm,?_⟩
    simp only[List.length_take]
    omega
theorem EO (l r:List UInt8) (n:Int) (hn:n=l.length):jD (l++r,0) n=(l,(r,0)):=by
 subst hn
 unfold jD
 rw[if_neg (by simp),if_neg (by simp only[List.length_append];omega)]
 by_cases h:(l.length:Int)<1
 ·have:l=[]:=List.eq_nil_of_length_eq_zero (by omega)
  subst this;rw[if_pos (by simp)];rfl
 ·rw[if_neg h];simp
theorem jH {s:Rd} {k:Nat} (h:(bO s k).2.2=0):s.2=0∧s.1=fJ (bO s k).1 k++(bO s k).2.1∧0≤(bO s k).1∧(bO s k).1<256^k:=by
 obtain⟨h1,h2,h3⟩:=IB (s:=s) (n:=k) (by omega) h
 have h4:(jD s k).1.length=k:=by omega
 refine⟨h1,?_,pQ k _ h4⟩
 unfold bO
 rw[Iz k _ h4];exact h2
theorem iZ (k:Nat) (n:Int) (r:List UInt8) (h0:0≤n) (h1:n<256^k):bO (fJ n k++r,0) k=(n,(r,0)):=by
 unfold bO
 rw[EO (fJ n k) r k (by rw[dO]),Iy k n h0 h1]
theorem fI (s:Rd) (k:Nat):0≤(bO s k).1∧(bO s k).1<256^k:=by
 by_cases h:(bO s k).2.2=0
 ·exact(jH h).2.2
 ·have hp:(0:Int)<256^k:=Int.pow_pos (by decide)
  have:(jD s k).1=[]:=by
   unfold bO at h
   unfold jD at h⊢
   split
   ·rfl
   ·rename_i h1
    rw[if_neg h1]at h
    split
    ·rfl
    ·rename_i h2
     rw[if_neg h2]at h
     split
     ·rfl
     ·rename_i h3;rw[if_neg h3]at h;exact absurd rfl h
  unfold bO
  rw[this]
  exact⟨Int.le_refl _,hp⟩
theorem Ns {s:Rd} (h:(qh s).2.2=0):s.2=0∧s.1=mZ (qh s).1++(qh s).2.1:=by
 unfold qh at h⊢
 by_cases h1:1<(bO s 1).1
 ·rw[if_pos h1]at h;cases h
 ·rw[if_neg h1]at h⊢
  obtain⟨e1,e2,e3,e4⟩:=jH h
  refine⟨e1,?_⟩
  unfold mZ
  by_cases h2:(bO s 1).1=1
  ·rw[h2]at e2;simp only[h2,decide_true,if_true];exact e2
  ·have h3:(bO s 1).1=0:=by omega
   rw[h3]at e2
   simp only[h3]
   exact e2
theorem Kl (f:Bool) (r:List UInt8):qh (mZ f++r,0)=(f,(r,0)):=by
 unfold qh mZ
 cases f
 ·rw[iZ 1 _ r (by decide) (by decide)];rfl
 ·rw[iZ 1 _ r (by decide) (by decide)];rfl
theorem oI {s:Rd} (h:(aQ s).2.2=0):s.2=0∧s.1=qp (aQ s).1++(aQ s).2.1∧(aQ s).1.length≤65535:=by
 have hr:=fI s 2
 unfold aQ at h⊢
 obtain⟨h1,h2,h3⟩:=IB hr.1 h
 obtain⟨h4,h5,h6,h7⟩:=jH h1
 refine⟨h4,?_,by have:(256:Int)^2=65536:=rfl;omega⟩
 unfold qp
 rw[h3,List.append_assoc,←h2]
 exact h5
theorem tH (l r:List UInt8) (h:l.length≤65535):aQ (qp l++r,0)=(l,(r,0)):=by
 unfold aQ qp
 rw[List.append_assoc,iZ 2 _ _ (by omega) (by have:(256:Int)^2=65536:=rfl;omega)]
 exact EO l r _ rfl
structure bJ (D:Nat→Prop) (w:World) (x:Nat) (s:Rd):Prop where
 head:∃a c,w.heap[x]? =some (.cells #[.slice a s.1.length c, .int .i64 s.2] 157 (0,0))∧lu s.1.length c∧aj D w a s.1.length (s.1.map bv)
 apart:¬D x
 small:s.1.length≤100000000
 why:0≤s.2∧s.2≤100
 low:∀b,D b→b<w.heap.size
def IC (D:Nat→Prop) (w:World) (x:Nat) (bs:List UInt8) (s':Rd) (e:Ending) (w':World):Prop:=
 ∃a c,e= .returned (.slice a bs.length c)∧lu bs.length c∧aj (fun b=>w.heap.size≤b∧b<w'.heap.size) w' a bs.length (bs.map bv)∧bJ D w' x s'∧Keeps (fun b=>b=x) w w'
def wV (D:Nat→Prop) (w:World) (x:Nat) (v:Value) (s':Rd) (e:Ending) (w':World):Prop:=
 e= .returned v∧bJ D w' x s'∧Keeps (fun b=>b=x) w w'
section
variable {D:Nat→Prop} {x:Nat} {w w1 w2:World} {s s1 s2:Rd}
theorem bJ.lt (h:bJ D w x s):x<w.heap.size:=by
 obtain⟨a,c,h1,_⟩:=h.head
 exact(Array.getElem?_eq_some_iff.1 h1).1
theorem bJ.kept (h:bJ D w x s) (hs:w.heap.size≤w1.heap.size) (hx:w1.heap[x]? =w.heap[x]?) (hD:∀b,D b→b<w.heap.size→w1.heap[b]? =w.heap[b]?):bJ D w1 x s:=by
 obtain⟨⟨a,c,h1,h2,h3⟩,h4,h5,h6,h7⟩:=h
 exact⟨⟨a,c,hx.trans h1,h2,h3.kept hs hD⟩,h4,h5,h6,fun b hb=>Nat.lt_of_lt_of_le (h7 b hb) hs⟩
theorem bJ.below {B:Nat} (h:bJ D w x s) (hb:Below B w w1) (hB:w.heap.size≤B):bJ D w1 x s:=
 h.kept hb.size (hb.block x (by have:=h.lt;omega)) fun b _ hb'=>hb.block b (by omega)
end
theorem PW {w:World} {base:Nat} {e:TypeId} {a:Option Addr} {m c n:Nat} {xs:List Value} (h:w.ownsRow base e 1 (.slice a m c) n xs):lu n c:=by
 obtain⟨h0,h⟩:=h
 rcases h with⟨h1,rfl⟩|⟨g,cap,cur,h1,_,_,h3,h4,_⟩
 ·simp only[Value.slice.injEq]at h1
  obtain⟨_,_,rfl⟩:=h1
  exact⟨Nat.zero_le _,Nat.zero_le _⟩
 ·simp only[Value.slice.injEq]at h1
  obtain⟨_,_,rfl⟩:=h1
  exact⟨h3,h4⟩
def IE (w:World) (bs:List UInt8) (e:Ending) (w':World):Prop:=
 ∃a c,e= .returned (.slice a bs.length c)∧lu bs.length c∧aj (fun x=>w.heap.size≤x∧x<w'.heap.size) w' a bs.length (bs.map bv)∧Below w.heap.size w w'
set_option maxHeartbeats 1000000 in
theorem zC {S:Nat→Prop} (a:Option Addr) (n cap:Nat) (bs:List UInt8) (w:World) (hm:n≤1000000000) (hr:aj S w a n (bs.map bv)):
  Calls Tryz.prog 96 #[.slice a n cap] w (IE w bs):=by
 obtain⟨i0,hi,hz0,hz1,hz2⟩:=info_parts Tryz.C9
 have hll:bs.length=n:=by have:=hr.length;simpa using this
 have heq:=fun w=>Lib.run_eql_slice_nil (P:=Tryz.prog) w 23 5 a n cap 0 0 Tryz.underlying23
 have HR:=Lib.hid hr
 have HL:=Lib.hid hll
 clear hr hll
 cases a with
 |none=>
  have h0:n=0:=by
   rcases Nat.eq_zero_or_pos n with h0|h0
   ·exact h0
   ·obtain⟨_,_,e,_⟩:=HR.out.at_ h0
    cases e
  subst h0
  have hb0:bs=[]:=List.eq_nil_of_length_eq_zero HL.out
  subst hb0
  go_enter Tryz.func96,Tryz.ntmps96
  go_wp2
  go_ret
  exact⟨none,0,rfl,⟨Nat.le_refl _,Nat.zero_le _⟩,aj.nil _ _ _,Below.refl _ _⟩
 |some ad=>
  have hsz:(w.alloc (.cells #[] 5)).heap.size=w.heap.size+1:=by simp
  have HS:=Lib.hid (HR.out.below (wall w (.cells #[] 5)) (Nat.le_refl _))
  go_enter Tryz.func96,Tryz.ntmps96
  go_wp2_with ((at_builtin;refine aW (by rfl) _ _ 23 (by rfl) w.heap.size 5 i0 (.int .u8 0) 1 Tryz.underlying23 hi hz0 hz1 hz2 rfl _ 0 [] (by rfl) ⟨rfl, .inr ⟨w.heap.size,0,#[],rfl,Nat.le_refl _,(MapKept.heap_alloc w _).1,Nat.le_refl _,Nat.zero_le _,rfl,rfl⟩⟩ (some ad) n cap (bs.map bv) (by rfl) HS.out (fq bs) (by unfold maxLen;omega) (by omega) (by simp) ?_;intro A' c' w2 hown2 hgrow2 _ _))
  go_ret
  have hB2:Below w.heap.size w w2:=(wall w _).grown hgrow2 (by simp) (fun k hk=>by cases hk;exact Nat.le_refl _)
  have hcap:=PW hown2
  have hro:=(aj.jI hown2).2
  rw[List.nil_append]at hro
  simp only[Nat.zero_add]at hro hcap
  have hl:=HL.out
  subst hl
  exact⟨_,c',by simp only[Nat.zero_add];rfl,hcap,hro,hB2⟩
section
variable {D:Nat→Prop} {x:Nat} {w:World} {s:Rd}
theorem sG {S:Nat→Prop} (a:Option Addr) (n c:Nat) (bs:List UInt8) (w:World) (hm:n≤100000000) (hr:aj S w a n (bs.map bv)):
  Calls Tryz.prog 45 #[.slice a n c] w fun e w'=>∃x,e= .returned (ptr x)∧w.heap.size≤x∧bJ (fun b=>w.heap.size≤b∧b<x) w' x (bs,0)∧Below w.heap.size w w':=by
 have hl:bs.length=n:=by simpa using hr.length
 have HC:=Lib.hid (zC a n c bs w (by omega) hr)
 have hl2:bs.length≤100000000:=by omega
 clear hr hl
 go_enter Tryz.func45,Tryz.ntmps45
 go_wp2_with fail
 (with_reducible refine HC.out.mono ?_)
 rintro e w1 ⟨a1,c1,rfl,hc1,hr1,hb1⟩
 have HR1:=Lib.hid hr1
 have HB1:=Lib.hid hb1
 have Vl:=Lib.hid hc1
 clear hr1 hb1 hc1 HC
 go_wp2_with fail
 go_ret
 refine⟨_,rfl,HB1.out.size,⟨⟨a1,c1,(MapKept.heap_alloc w1 _).1,Vl.out,?_⟩,fun h=>by omega,hl2,by simp,fun b hb=>by rw[World.size_alloc];omega⟩,HB1.out.trans ((wall w1 _).mono HB1.out.size)⟩
 exact HR1.out.move (wall w1 _).size fun b hb hbw=>⟨hb,(wall w1 _).block b hbw⟩
theorem row0 {D:Nat→Prop} {w w':World} {x:Nat} {s':Rd} (h:bJ D w' x s') (hk:Keeps (fun b=>b=x) w w'):IC D w x [] s' (.returned (.slice none 0 0)) w':=
 ⟨none,0,rfl,⟨Nat.le_refl _,Nat.zero_le _⟩,aj.nil _ _ _,h,hk⟩
set_option maxHeartbeats 4000000 in
theorem Nt (h:bJ D w x s) (n:Int) (hn0:0≤n) (hn1:n≤9223372036854775807):Calls Tryz.prog 98 #[ptr x, .int .i64 n] w (IC D w x (jD s n).1 (jD s n).2):=by
 obtain⟨l,y⟩:=s
 obtain⟨a,c,h1,h2,h3⟩:=h.head
 have c0:w.cell? ⟨x,0,none⟩=some (.slice a l.length c):=by simp[World.cell?,h1]
 have c1:w.cell? ⟨x,1,none⟩=some (.int .i64 y):=by simp[World.cell?,h1]
 have f0:w.frozen? ⟨x,0,none⟩=false:=by simp[World.frozen?,h1]
 have f1:w.frozen? ⟨x,1,none⟩=false:=by simp[World.frozen?,h1]
 have hxw:=h.lt
 have V6:=h.why
 have hls:l.length≤100000000:=h.small
 dsimp only at V6
 by_cases hy:y=0
 ·subst hy
  by_cases hlt:(l.length:Int)<n
  ·have e1:jD (l,0) n=([],(l,10)):=by unfold jD;rw[if_neg (by simp),if_pos hlt]
   rw[e1]
   have HE:Hid (bJ D (w.setCell ⟨x,1,none⟩ (.int .i64 10)) x (l,10)):=by
    refine⟨⟨a,c,?_,h2,?_⟩,h.apart,h.small,by simp,fun b hb=>by rw[size_set];exact h.low b hb⟩
    ·rw[bX h1];rfl
    ·exact h3.kept (by rw[size_set];exact Nat.le_refl _) fun b hb _=>bI w _ _ _ (fun(e:b=x)=>h.apart (e▸hb))
   clear h h1 h2 h3 e1 V6
   go_enter Tryz.func98,Tryz.ntmps98
   go_wp2
   all_goals (first|(go_ret;exact row0 HE.out (Keeps.iG w ⟨x,1,none⟩ _))|((try simp only[Exit.inBlock,Exit.then]);refine bodyPost_ret (by rfl) rfl ?_;exact row0 HE.out (Keeps.iG w ⟨x,1,none⟩ _)))
  ·have hge:¬((l.length:Int)<n):=hlt
   have hgb:decide ((l.length:Int)<n)=false:=by simpa using hlt
   by_cases h0:n<1
   ·have e1:jD (l,0) n=([],(l,0)):=by unfold jD;rw[if_neg (by simp),if_neg hlt,if_pos h0]
    rw[e1]
    have HE:=Lib.hid h
    clear h h1 h2 h3 e1 V6 hlt
    go_enter Tryz.func98,Tryz.ntmps98
    go_wp2
    all_goals (first|(go_ret;exact row0 HE.out (Keeps.refl _ _))|((try simp only[Exit.inBlock,Exit.then]);refine bodyPost_ret (by rfl) rfl ?_;exact row0 HE.out (Keeps.refl _ _)))
   ·obtain⟨k,rfl⟩:∃k:Nat,n=(k:Int):=⟨n.toNat,by omega⟩
    have e1:jD (l,0) (k:Int)=(l.take k,(l.drop k,0)):=by unfold jD;rw[if_neg (by simp),if_neg hlt,if_neg h0];rfl
    rw[e1]
    have hk1:1≤k:=by omega
    have hkl:k≤l.length:=by omega
    obtain⟨L,hL⟩:∃L,L=l.length:=⟨_,rfl⟩
    rw[←hL]at c0 h1 h2 h3 hlt hge hgb hkl hls
    obtain⟨b,off,rfl,tQ,hbw,-⟩:=h3.at_ (by omega)
    have hLc:=h2.1
    have hcm:=h2.2
    unfold maxLen at hcm
    have hbx:b≠x:=fun e=>h.apart (e▸tQ)
    have htk:aj D w (some ⟨b,off,none⟩) k ((l.take k).map bv):=by
     have:=h3.take k
     rw[List.map_take]
     rwa [Nat.min_eq_right hkl]at this
    have FZ:=Lib.hid (zC (some ⟨b,off,none⟩) k c (l.take k) w (by omega) htk)
    have Pk:Hid ((l.take k).length=k):=by show _=_;rw[List.length_take];omega
    have Im:Hid ((l.drop k).length=L-k):=by show _=_;rw[List.length_drop,hL]
    have xu:∀(w1:World) (A:Option Addr) (C:Nat),IE w (l.take k) (.returned (.slice A k C)) w1→∀(R:Option Addr) (rc:Nat),lu (L-k) rc→(0<L-k→R=some ⟨b,off+k,none⟩)→
      IC D w x (l.take k) (l.drop k,0) (.returned (.slice A k C)) (w1.setCell ⟨x,0,none⟩ (.slice R (L-k) rc)):=by
     intro w1 A C hret R rc hrc hR
     obtain⟨a1,cc,he,hc1,hr1,hb1⟩:=hret
     rw[Pk.out]at he hc1 hr1
     cases he
     have hx1:=(hb1.block x hxw).trans h1
     refine⟨A,C,by rw[Pk.out],by rw[Pk.out];exact hc1,?_,⟨⟨R,rc,?_,?_,?_⟩,h.apart,?_,by simp,fun z hz=>by rw[size_set];exact Nat.lt_of_lt_of_le (h.low z hz) hb1.size⟩,?_⟩
     ·rw[Pk.out]
      refine hr1.move (by rw[size_set];exact Nat.le_refl _) fun z hz hzw=>⟨⟨hz.1,by rw[size_set];exact hz.2⟩,bI w1 _ _ _ (fun e=> ?_)⟩
      have e':z=x:=e
      omega
     ·rw[bX hx1]
      simp only[Im.out]
      rfl
     ·rw[Im.out];exact hrc
     ·simp only[Im.out]
      have hdr:aj D w1 (some ⟨b,off+k,none⟩) (L-k) ((l.drop k).map bv):=by
       have:=(h3.drop k).below hb1 (Nat.le_refl _)
       rwa [←List.map_drop]at this
      have Ym:aj D w1 R (L-k) ((l.drop k).map bv):=by
       by_cases hz:0<L-k
       ·rw[hR hz];exact hdr
       ·exact aj.zero R _ _ (by omega) (by rw[List.eq_nil_of_length_eq_zero (l:=l.drop k) (by rw[Im.out];omega)];rfl)
      exact Ym.kept (by rw[size_set];exact Nat.le_refl _) fun z hz _=>bI w1 _ _ _ (fun(e:z=x)=>h.apart (e▸hz))
     ·show(l.drop k).length≤_
      rw[Im.out];omega
     ·exact((Keeps.below hb1).mono (fp':=fun z=>z=x) fun z hz hz'=>by omega).trans (Keeps.iG w1 ⟨x,0,none⟩ _) fun z _ hz=>hz
    have QU:=Lib.hid xu
    clear xu h h1 h2 h3 e1 V6 hlt htk hL h0
    have b1:(1:Int)≤(k:Int):=by omega
    have b0:(0:Int)≤(k:Int):=by omega
    have b2:(k:Int)≤(c:Int):=by omega
    have b3:(k:Int)≤(L:Int):=by omega
    have d1:decide ((k:Int)<1)=false:=by simp;omega
    by_cases hcap:c=k
    ·obtain rfl:k=c:=hcap.symm
     go_enter Tryz.func98,Tryz.ntmps98
     go_wp2_with fail
     (with_reducible refine FZ.out.mono ?_)
     rintro e w1 hret
     obtain⟨A,C,rfl⟩:∃A C,e= .returned (.slice A k C):=by
      obtain⟨A,C,he,-⟩:=hret
      exact⟨A,C,by rw[he,Pk.out]⟩
     have SF:=Lib.hid hret
     have hb1:Below w.heap.size w w1:=by
      obtain⟨_,_,_,_,_,hb⟩:=hret
      exact hb
     have q0:w1.cell? ⟨x,0,none⟩=some (.slice (some ⟨b,off,none⟩) L k):=(hb1.cell (p:=⟨x,0,none⟩) hxw).trans c0
     have g0:w1.frozen? ⟨x,0,none⟩=false:=(hb1.frozen (p:=⟨x,0,none⟩) hxw).trans f0
     clear hret hb1 FZ
     go_wp2_with fail
     go_ret
     have hfin:=QU.out w1 A C SF.out (some ⟨b,off,none⟩) 0 ⟨by omega,Nat.zero_le _⟩ (fun hz=>by omega)
     rw[show L-k=0 by omega]at hfin
     exact hfin
    ·go_enter Tryz.func98,Tryz.ntmps98
     go_wp2_with fail
     (with_reducible refine FZ.out.mono ?_)
     rintro e w1 hret
     obtain⟨A,C,rfl⟩:∃A C,e= .returned (.slice A k C):=by
      obtain⟨A,C,he,-⟩:=hret
      exact⟨A,C,by rw[he,Pk.out]⟩
     have SF:=Lib.hid hret
     have hb1:Below w.heap.size w w1:=by
      obtain⟨_,_,_,_,_,hb⟩:=hret
      exact hb
     have q0:w1.cell? ⟨x,0,none⟩=some (.slice (some ⟨b,off,none⟩) L c):=(hb1.cell (p:=⟨x,0,none⟩) hxw).trans c0
     have g0:w1.frozen? ⟨x,0,none⟩=false:=(hb1.frozen (p:=⟨x,0,none⟩) hxw).trans f0
     clear hret hb1 FZ
     go_wp2_with fail
     go_ret
     exact QU.out w1 A C SF.out _ _ ⟨by omega,by unfold maxLen;omega⟩ (fun hz=>by first|rfl|omega)
 ·have e1:jD (l,y) n=([],(l,y)):=BG (s:=(l,y)) hy n
  rw[e1]
  have d1:(y==0)=false:=by simpa using hy
  have d2:(y !=0)=true:=by simpa using hy
  have HE:=Lib.hid h
  clear h h1 h2 h3 e1 hy
  go_enter Tryz.func98,Tryz.ntmps98
  go_wp2
  all_goals (first|(go_ret;exact row0 HE.out (Keeps.refl _ _))|((try simp only[Exit.inBlock,Exit.then]);refine bodyPost_ret (by rfl) rfl ?_;exact row0 HE.out (Keeps.refl _ _)))
theorem u64_or (n c:Int) (h0:0≤n) (h1:n<72057594037927936) (c0:0≤c) (c1:c<256):bits .or .u64 (n*256) c=n*256+c:=by
 obtain⟨a,rfl⟩:=Int.eq_ofNat_of_zero_le h0
 obtain⟨b,rfl⟩:=Int.eq_ofNat_of_zero_le c0
 have h:=bits_or_u64_nat (a*256) b (by omega) (by omega)
 rw[show((a:Int)*256)=((a*256:Nat):Int)by omega,h,nat_join8 _ _ (by omega) (by omega)]
 omega
theorem IG (s:Rd) (k:Nat):(jD s k).1.length≤k:=by
 unfold jD
 split
 ·simp
 ·split
  ·simp
  ·split
   ·simp
   ·simp only[List.length_take];omega
theorem GJ {l:List UInt8} (h:l.length≤8) (j:Nat) (hj:j<l.length):0≤pO (l.take j)∧pO (l.take j)<72057594037927936:=by
 obtain⟨h1,h2⟩:=pQ j (l.take j) (by rw[List.length_take];omega)
 refine⟨h1,Int.lt_of_lt_of_le h2 ?_⟩
 have h3:j≤7:=by omega
 have:j=0∨j=1∨j=2∨j=3∨j=4∨j=5∨j=6∨j=7:=by omega
 rcases this with h|h|h|h|h|h|h|h<;>subst h<;>decide
set_option maxHeartbeats 2000000 in
theorem GK (h:bJ D w x s) (k:Nat) (hk:k≤8):Calls Tryz.prog 97 #[ptr x, .int .i64 k] w (wV D w x (.int .u64 (bO s k).1) (bO s k).2):=by
 have HR:=Lib.hid (Nt h (k:Int) (by omega) (by omega))
 have hlen:=IG s k
 unfold bO
 obtain⟨bs,hbs⟩:∃bs,bs=(jD s k).1:=⟨_,rfl⟩
 obtain⟨s',hs'⟩:∃s',s'=(jD s k).2:=⟨_,rfl⟩
 rw[←hbs,←hs']at HR
 rw[←hbs]at hlen
 rw[←hbs,←hs']
 have hl8:bs.length≤8:=by omega
 clear h hbs hs' hlen
 go_enter Tryz.func97,Tryz.ntmps97
 go_wp2_with fail
 (with_reducible refine HR.out.mono ?_)
 rintro e w1 ⟨a,c,rfl,hc1,hr1,mQ,hK1⟩
 have HRW:=Lib.hid hr1
 have xu:Hid (bJ D w1 x s'∧Keeps (fun b=>b=x) w w1):=⟨mQ,hK1⟩
 obtain⟨L,hL⟩:∃L,L=bs.length:=⟨_,rfl⟩
 have CW:=Lib.hid hL
 rw[←hL]at hl8 HRW
 rw[←hL]
 clear hc1 hr1 mQ hK1 HR hL
 go_wp2_with fail
 go_loop [5,12] (fun n i=>∃j:Nat,j≤L∧i= .int .i64 j∧n= .int .u64 (pO (bs.take j))) (fun _ i=>L-(intOf i).toNat)
 case atStart=>exact⟨0,Nat.zero_le _,rfl,rfl⟩
 case round=>
  obtain⟨j,hj,rfl,rfl⟩:=hrel
  by_cases hlt:j<L
  ·obtain⟨b,off,rfl,_,hbw,hcc⟩:=HRW.out.at_ (by omega)
   have hll:=CW.out
   obtain⟨v0,v1⟩:=GJ (l:=bs) (by omega) j (by omega)
   have hget:bs[j]? =some (bs[j]'(by omega)):=List.getElem?_eq_getElem (by omega)
   have htk:bs.take (j+1)=bs.take j++[bs[j]'(by omega)]:=List.take_succ_eq_append_getElem (by omega)
   obtain⟨cb,hcb⟩:∃cb,cb=bs[j]'(by omega):=⟨_,rfl⟩
   rw[←hcb]at hget htk
   have q:=hcc j hlt
   rw[List.getElem?_map,hget]at q
   have q1:w1.cell? ⟨b,off+j,none⟩=some (.int .u8 (cb.toNat:Int)):=q
   have HV:Hid (pO (bs.take (j+1))=pO (bs.take j)*256+(cb.toNat:Int)):=by
    show _=_
    rw[htk,uX]
   have hc2:(cb.toNat:Int)<256:=by have:=cb.toNat_lt;omega
   obtain⟨v,hv⟩:∃v,v=pO (bs.take j):=⟨_,rfl⟩
   rw[←hv]at v0 v1 HV⊢
   have HO:Hid (bits .or .u64 (v*256) (cb.toNat:Int)=v*256+(cb.toNat:Int)):=u64_or v _ v0 v1 (by omega) hc2
   clear hll hget htk hcb q hcc hv
   go_wp2
   go_round
   case rel=>exact⟨j+1,by omega,by go_num,by rw[HV.out,←HO.out]⟩
   case measure=>simp[intOf];omega
  ·obtain rfl:j=L:=by omega
   have hall:bs.take j=bs:=by rw[List.take_of_length_le (by have:=CW.out;omega)]
   rw[hall]
   clear hall
   go_wp2
   go_ret
   exact⟨rfl,xu.out⟩
theorem ng (h:bJ D w x s):Calls Tryz.prog 55 #[ptr x] w (wV D w x (.int .i64 (bO s 2).1) (bO s 2).2):=by
 have HG:Hid (Calls Tryz.prog 97 #[ptr x, .int .i64 2] w (wV D w x (.int .u64 (bO s 2).1) (bO s 2).2)):=GK h 2 (by omega)
 obtain⟨n0,n1⟩:=fI s 2
 have e1:IntKind.i64.wrap (bO s 2).1=(bO s 2).1:=IntWalk.i64_in _ (by have:(256:Int)^2=65536:=rfl;omega)
 generalize (bO s 2).1=v at*
 generalize (bO s 2).2=s' at*
 clear h n1
 go_enter Tryz.func55,Tryz.ntmps55
 go_wp2_with fail
 (with_reducible refine HG.out.mono ?_)
 rintro e w1 ⟨rfl,mQ⟩
 have HR1:=Lib.hid mQ
 clear mQ
 go_wp2_with fail
 go_ret
 exact⟨rfl,HR1.out⟩
theorem II (h:bJ D w x s):Calls Tryz.prog 48 #[ptr x] w (wV D w x (.int .i64 (bO s 1).1) (bO s 1).2):=by
 have HG:Hid (Calls Tryz.prog 97 #[ptr x, .int .i64 1] w (wV D w x (.int .u64 (bO s 1).1) (bO s 1).2)):=GK h 1 (by omega)
 obtain⟨n0,n1⟩:=fI s 1
 have e1:IntKind.i64.wrap (bO s 1).1=(bO s 1).1:=IntWalk.i64_in _ (by have:(256:Int)^1=256:=rfl;omega)
 generalize (bO s 1).1=v at*
 generalize (bO s 1).2=s' at*
 clear h n1
 go_enter Tryz.func48,Tryz.ntmps48
 go_wp2_with fail
 (with_reducible refine HG.out.mono ?_)
 rintro e w1 ⟨rfl,mQ⟩
 have HR1:=Lib.hid mQ
 clear mQ
 go_wp2_with fail
 go_ret
 exact⟨rfl,HR1.out⟩
theorem PX (h:bJ D w x s):Calls Tryz.prog 46 #[ptr x] w (wV D w x (.int .u64 (bO s 8).1) (bO s 8).2):=by
 have HG:Hid (Calls Tryz.prog 97 #[ptr x, .int .i64 8] w (wV D w x (.int .u64 (bO s 8).1) (bO s 8).2)):=GK h 8 (by omega)
 generalize (bO s 8).1=v at*
 generalize (bO s 8).2=s' at*
 clear h
 go_enter Tryz.func46,Tryz.ntmps46
 go_wp2_with fail
 (with_reducible refine HG.out.mono ?_)
 rintro e w1 ⟨rfl,mQ⟩
 have HR1:=Lib.hid mQ
 clear mQ
 go_wp2_with fail
 go_ret
 exact⟨rfl,HR1.out⟩
theorem zD (h:bJ D w x s):Calls Tryz.prog 47 #[ptr x] w (IC D w x (aQ s).1 (aQ s).2):=by
 have HS:=Lib.hid (ng h)
 obtain⟨n0,n1⟩:=fI s 2
 have n2:(bO s 2).1≤9223372036854775807:=by have:(256:Int)^2=65536:=rfl;omega
 unfold aQ
 generalize (bO s 2).1=v at*
 generalize (bO s 2).2=s1 at*
 clear h n1
 go_enter Tryz.func47,Tryz.ntmps47
 go_wp2_with fail
 (with_reducible refine HS.out.mono ?_)
 rintro e w1 ⟨rfl,mQ,hK1⟩
 have HR:=Lib.hid (Nt mQ v n0 n2)
 have HK:=Lib.hid hK1
 clear mQ hK1
 go_wp2_with fail
 (with_reducible refine HR.out.mono ?_)
 rintro e w2 ⟨a,c,rfl,hc2,hr2,hR2,hK2⟩
 have HR2:Hid (lu (jD s1 v).1.length c∧aj (fun b=>w1.heap.size≤b∧b<w2.heap.size) w2 a (jD s1 v).1.length ((jD s1 v).1.map bv)∧bJ D w2 x (jD s1 v).2∧Keeps (fun b=>b=x) w1 w2):=⟨hc2,hr2,hR2,hK2⟩
 clear hc2 hr2 hR2 hK2
 go_wp2_with fail
 go_ret
 obtain⟨g1,g2,g3,g4⟩:=HR2.out
 exact⟨a,c,rfl,g1,g2.mono fun b hb=>⟨Nat.le_trans HK.out.size hb.1,hb.2⟩,g3,HK.out.trans g4 fun b _ hb=>hb⟩
theorem PY (h:bJ D w x s):Calls Tryz.prog 99 #[ptr x] w fun e w'=>e= .returned (.int .i64 (qW s:Int))∧w=w':=by
 obtain⟨l,y⟩:=s
 obtain⟨a,c,h1,h2,h3⟩:=h.head
 have c0:w.cell? ⟨x,0,none⟩=some (.slice a l.length c):=by simp[World.cell?,h1]
 have c1:w.cell? ⟨x,1,none⟩=some (.int .i64 y):=by simp[World.cell?,h1]
 by_cases hy:y=0
 ·subst hy
  have e1:qW (l,0)=l.length:=by unfold qW;rw[if_neg (by simp)]
  rw[e1]
  clear h h1 h2 h3 e1
  go_enter Tryz.func99,Tryz.ntmps99
  go_wp2
  go_ret
  exact⟨rfl,rfl⟩
 ·have e1:qW (l,y)=0:=by unfold qW;rw[if_pos hy]
  rw[e1]
  have d1:(y !=0)=true:=by simpa using hy
  clear h h1 h2 h3 e1 hy
  go_enter Tryz.func99,Tryz.ntmps99
  go_wp2
  go_ret
  exact⟨rfl,rfl⟩
theorem GL (h:bJ D w x s):Calls Tryz.prog 50 #[ptr x] w fun e w'=>e= .returned (.int .i64 (oH s))∧w=w':=by
 obtain⟨l,y⟩:=s
 obtain⟨a,c,h1,h2,h3⟩:=h.head
 have c0:w.cell? ⟨x,0,none⟩=some (.slice a l.length c):=by simp[World.cell?,h1]
 have c1:w.cell? ⟨x,1,none⟩=some (.int .i64 y):=by simp[World.cell?,h1]
 by_cases hy:y=0
 ·subst hy
  by_cases hl:0<l.length
  ·have e1:oH (l,0)=11:=by unfold oH;rw[if_pos ⟨rfl,hl⟩]
   rw[e1]
   have d1:decide ((0:Int)<(l.length:Int))=true:=by simp;omega
   clear h h1 h2 h3 e1
   go_enter Tryz.func50,Tryz.ntmps50
   go_wp2
   go_ret
   exact⟨rfl,rfl⟩
  ·obtain rfl:l=[]:=List.eq_nil_of_length_eq_zero (by omega)
   have e1:oH ([],0)=0:=rfl
   rw[e1]
   clear h h1 h2 h3 e1
   go_enter Tryz.func50,Tryz.ntmps50
   go_wp2
   go_ret
   exact⟨rfl,rfl⟩
 ·have e1:oH (l,y)=y:=by unfold oH;rw[if_neg (fun hh=>hy hh.1)]
  rw[e1]
  have d1:(y==0)=false:=by simpa using hy
  clear h h1 h2 h3 e1 hy
  go_enter Tryz.func50,Tryz.ntmps50
  go_wp2
  go_ret
  exact⟨rfl,rfl⟩
theorem PZ (h:bJ D w x s):Calls Tryz.prog 156 #[ptr x] w (wV D w x (.bool (qh s).1) (qh s).2):=by
 have HB:=Lib.hid (II h)
 obtain⟨n0,n1⟩:=fI s 1
 unfold qh
 generalize (bO s 1).1=v at*
 generalize (bO s 1).2=s1 at*
 clear h n1
 by_cases h1:1<v
 ·rw[if_pos h1]
  have e1:decide (v=1)=false:=by simp;omega
  have e2:(v==1)=false:=by simp;omega
  rw[e1]
  clear e1
  go_enter Tryz.func156,Tryz.ntmps156
  go_wp2_with fail
  (with_reducible refine HB.out.mono ?_)
  rintro e w1 ⟨rfl,mQ,hK1⟩
  obtain⟨l,y⟩:=s1
  obtain⟨a,c,q1,q2,q3⟩:=mQ.head
  have f1:w1.frozen? ⟨x,1,none⟩=false:=by simp[World.frozen?,q1]
  have c1:w1.cell? ⟨x,1,none⟩=some (.int .i64 y):=by simp[World.cell?,q1]
  have HE:Hid (bJ D (w1.setCell ⟨x,1,none⟩ (.int .i64 12)) x (l,12)):=by
   refine⟨⟨a,c,?_,q2,?_⟩,mQ.apart,mQ.small,by simp,fun b hb=>by rw[size_set];exact mQ.low b hb⟩
   ·rw[bX q1];rfl
   ·exact q3.kept (by rw[size_set];exact Nat.le_refl _) fun b hb _=>bI w1 _ _ _ (fun(e:b=x)=>mQ.apart (e▸hb))
  have HK:=Lib.hid hK1
  clear mQ hK1 q1 q2 q3 HB
  go_wp2_with fail
  go_ret
  exact⟨rfl,HE.out,HK.out.trans (Keeps.iG w1 ⟨x,1,none⟩ _) fun b _ hb=>hb⟩
 ·rw[if_neg h1]
  have e0:decide (v=1)=(v==1):=by by_cases hv:v=1<;>simp[hv]
  rw[e0]
  clear e0
  go_enter Tryz.func156,Tryz.ntmps156
  go_wp2_with fail
  (with_reducible refine HB.out.mono ?_)
  rintro e w1 ⟨rfl,mQ,hK1⟩
  have HE:Hid (bJ D w1 x s1∧Keeps (fun b=>b=x) w w1):=⟨mQ,hK1⟩
  clear mQ hK1 HB
  go_wp2_with fail
  go_ret
  exact⟨rfl,HE.out⟩
end
end Go.Proofs.YtjnhnlabpccgjaaGreat
